/- GridEach: a box is gone over cell by cell in the document's order, and may be left behind any number of cells. -/
import Derived.Deep.Onto
import Derived.RangeFuncBox
import Derived.Sort.QuietIn
import Derived.Test.YthjbapjmlkbeoaaQuietR
import Derived.Test.YthjbapjmlkbeoaaNear
import Derived.Test.YthjbapjmlkbeoaaBoxOrder
import Derived.Test.YthjbapjmlkbeoaaHas
import Derived.Test.YthjbapjmlkbeoaaRef04Each
import Derived.Test.YthjbapjmlkbeoaaAwake04
import Derived.Test.YthjbapjmlkbeoaaFlat
namespace Go.Proofs.Ythjbapjmlkbeoaa
open Go.RowKit Go.Shelf
set_option linter.unusedVariables false
set_option linter.unusedSimpArgs false

attribute [local go_sem] Oper.semAt_some

theorem keeps_drewN_set (W : World) (n : Nat) (a : Addr) (v : Value) : KeepsOthers W ((W.drewN n).setCell a v) := KeepsOthers.trans (B := W.drewN n) ⟨Nat.le_refl _, fun _ _ h _ => h⟩ (KeepsOthers.setCell _ a v)
theorem Rd.at_0 {w : World} {B g : Nat} {xs : List Value} (h : Rd w B (some ⟨g, 0, none⟩) xs) {i : Nat} {u : Value} (hu : xs[i]? = some u) : w.cell? ⟨g, i, none⟩ = some u := by
  obtain ⟨a, ha, _, hc⟩ := h i u hu
  injection ha with ha
  subst ha
  rwa [add_plain, Nat.zero_add] at hc
/-- What n holds behind the places pre. -/
def EachOk (most : Int) {N : Nat} (pre : List (Fin N)) (n : Int) : Prop := (0 ≤ n ∧ n < most) ∧ (inOrd pre → n = pre.length)
def EachIn (B : Nat) (W0 : World) (most : Int) {N : Nat} (pre : List (Fin N)) (W : World) : Prop :=
  (∃ n : Int, Boxed W (B + 1) 3 (.int .i64 n) ∧ EachOk most pre n) ∧ Kp [B + 1] W0 W
def EachOut (B R : Nat) (W0 : World) (most : Int) {N : Nat} (c : Code) (pre : List (Fin N)) (W : World) : Prop :=
  ((c = .ret ∧ ∃ b : Bool, Boxed W R 4 (.bool b) ∧ (inOrd pre → False)) ∨ (c = .exit 0 ∧ Boxed W R 4 (.bool false) ∧ Boxed W (B + 1) 3 (.int .i64 most) ∧ (inOrd pre → (pre.length : Int) = most))) ∧ Kp [R, B + 1] W0 W
theorem EachIn.own (B : Nat) (W0 : World) (most : Int) (N C : Nat) (h : W0.heap.size ≤ C) : OwnFrom C (EachIn B W0 most (N := N)) := fun s X Y row hs hg hr => by
  obtain ⟨⟨n, h1, h3⟩, hk⟩ := hs
  exact ⟨⟨n, boxed_own _ _ (fun (_ : Unit) => Value.int .i64 n) () X Y row h1 hg (fun r e => (hr r e).2), h3⟩, kp_own (β := Unit) h () X Y row hk hg hr⟩
theorem EachOut.own (B R : Nat) (W0 : World) (most : Int) (N : Nat) (c : Code) (C : Nat) (h : W0.heap.size ≤ C) : OwnFrom C (EachOut B R W0 most (N := N) c) := fun s X Y row hs hg hr => by
  obtain ⟨hs, hk⟩ := hs
  refine ⟨?_, kp_own (β := Unit) h () X Y row hk hg hr⟩
  rcases hs with ⟨rfl, b, h1, h3⟩ | ⟨rfl, h1, h2, h3⟩
  · exact .inl ⟨rfl, b, boxed_own _ _ (fun (_ : Unit) => Value.bool b) () X Y row h1 hg (fun r e => (hr r e).2), h3⟩
  · exact .inr ⟨rfl, boxed_own _ _ (fun (_ : Unit) => Value.bool false) () X Y row h1 hg (fun r e => (hr r e).2), boxed_own _ _ (fun (_ : Unit) => Value.int .i64 most) () X Y row h2 hg (fun r e => (hr r e).2), h3⟩

set_option maxRecDepth 100000 in
set_option maxHeartbeats 8000000 in
theorem GridEach_in (ax ay az bx by' bz most : Int) (h1 : 1 ≤ most) (h2 : most ≤ 5000) (w : World) :
    CallsIn Fence.wide 6 Try.prog 5 #[boxV ax ay az bx by' bz, .int .i64 most] w fun e w' => e = .returned (.bool true) ∧ Kp [] w w' := by
  have HM := Lib.hid (fun n w => each_made n ax ay az bx by' bz w)
  have HR := Lib.hid (fun h1 h2 => ref_Each ax ay az bx by' bz most h1 h2)
  unfold boxV at *
  refine callsIn_of_wp_marks Try.func5 rfl trivial ?_ rfl
  simp only [Try.ntmps5, List.size_toArray, List.length_cons, List.length_nil, Nat.reduceAdd, Nat.reduceSub, Array.replicate_succ, Array.replicate_zero, List.push_toArray, List.append_toArray, List.nil_append, List.cons_append]
  gi_wp2_with fail
  refine ⟨trivial, (callsIn_wide.2 (awake _)).mono ?_⟩
  rintro e w1 ⟨rfl, k1⟩
  have hb0 : Bk w1 w.heap.size 33 #[.int .i64 ax, .int .i64 ay, .int .i64 az, .int .i64 bx, .int .i64 by', .int .i64 bz] := (((Bk.new w _ _).alloc (.cells #[.int .i64 most] 3)).alloc (.cells #[.bool false] 4)).kp k1 (by simp)
  have hm0 : Boxed w1 (w.heap.size + 1) 3 (.int .i64 most) := by
    have h := Boxed.alloc (Boxed.new (w.alloc (.cells #[.int .i64 ax, .int .i64 ay, .int .i64 az, .int .i64 bx, .int .i64 by', .int .i64 bz] 33)) 3 (.int .i64 most)) (.cells #[.bool false] 4)
    rw [World.size_alloc] at h
    exact Bk.kp (g := w.heap.size + 1) h k1 (by simp)
  have hr0 : Boxed w1 (w.heap.size + 1 + 1) 4 (.bool false) := by
    have h := Boxed.new ((w.alloc (.cells #[.int .i64 ax, .int .i64 ay, .int .i64 az, .int .i64 bx, .int .i64 by', .int .i64 bz] 33)).alloc (.cells #[.int .i64 most] 3)) 4 (.bool false)
    rw [World.size_alloc, World.size_alloc] at h
    exact Bk.kp (g := w.heap.size + 1 + 1) h k1 (by simp)
  have K1 : Hid (Kp [] w w1) := ((((Kp.refl [] w).alloc _).alloc _).alloc _).then k1
  have hs1 : w.heap.size + 3 ≤ w1.heap.size := by have := k1.size; simp at this; omega
  have m0 := hm0.cell
  have r0 := hr0.cell
  have r1 := hr0.frozen
  obtain ⟨b0, b1, b2, b3, b4, b5⟩ := has6 (show Has w1 [(⟨w.heap.size, 0, none⟩, .int .i64 ax), (⟨w.heap.size, 1, none⟩, .int .i64 ay), (⟨w.heap.size, 2, none⟩, .int .i64 az), (⟨w.heap.size, 3, none⟩, .int .i64 bx), (⟨w.heap.size, 4, none⟩, .int .i64 by'), (⟨w.heap.size, 5, none⟩, .int .i64 bz)] from ⟨hb0.cell 0, hb0.cell 1, hb0.cell 2, hb0.cell 3, hb0.cell 4, hb0.cell 5⟩)
  have HB0 := Lib.hid hb0
  have HM0 := Lib.hid hm0
  have HR0 := Lib.hid hr0
  clear k1 hb0 hr0 hm0
  have t1 : decide (most < 1) = false := by simpa using h1
  have t2 : decide (5000 < most) = false := by simpa using h2
  gi_wp2_with fail
  refine ⟨trivial, (callsIn_wide.2 (HR.out h1 h2 _)).mono ?_⟩
  rintro e w2 ⟨v, rfl, hown, k2⟩
  obtain ⟨M, hM⟩ : ∃ M, min (eachN ax ay az bx by' bz) most.toNat = M := ⟨_, rfl⟩
  rw [hM] at hown
  have hAg : 0 < M → ∃ g c, v = .slice (some ⟨g, 0, none⟩) M c := fun h => by
    obtain ⟨g, c, e, _, _⟩ := hown.form h
    exact ⟨g, c, e⟩
  obtain ⟨A, cA, rfl, hMc, _, hrd⟩ := own_read hown
  have HAg : Hid (0 < M → ∃ g, A = some ⟨g, 0, none⟩) := fun h => by
    obtain ⟨g, c, e⟩ := hAg h
    injection e with e1
    exact ⟨g, e1⟩
  clear hAg
  have HMe := Lib.hid hM
  have K2 : Hid (Kp [] w w2) := K1.out.then k2
  have HB2 := Lib.hid (HB0.out.kp k2 (by simp))
  have HM2 : Hid (Boxed w2 (w.heap.size + 1) 3 (.int .i64 most)) := Bk.kp (g := w.heap.size + 1) HM0.out k2 (by simp)
  have HR2 : Hid (Boxed w2 (w.heap.size + 1 + 1) 4 (.bool false)) := Bk.kp (g := w.heap.size + 1 + 1) HR0.out k2 (by simp)
  have HRD := Lib.hid hrd
  have hs2 := k2.size
  obtain ⟨b0, b1, b2, b3, b4, b5⟩ := has6 (((show Has w2 [(⟨w.heap.size, 0, none⟩, .int .i64 ax), (⟨w.heap.size, 1, none⟩, .int .i64 ay), (⟨w.heap.size, 2, none⟩, .int .i64 az), (⟨w.heap.size, 3, none⟩, .int .i64 bx), (⟨w.heap.size, 4, none⟩, .int .i64 by'), (⟨w.heap.size, 5, none⟩, .int .i64 bz)] from ⟨HB2.out.cell 0, HB2.out.cell 1, HB2.out.cell 2, HB2.out.cell 3, HB2.out.cell 4, HB2.out.cell 5⟩).alloc (.cells #[.slice A M cA] 34)).alloc (.cells #[.int .i64 0] 3))
  clear hown hrd hM k2 HB0 HM0 HR0 K1 m0 r0 r1 HR
  gi_wp2_with (refine ⟨trivial, ?_⟩; gi_at_call 21; refine (HM.out _ _).mono ?_; rintro e w' ⟨rfl, rfl⟩)
  have hbx := ((HB2.out.alloc (.cells #[.slice A M cA] 34)).alloc (.cells #[.int .i64 0] 3)).alloc (.cells #[.int .i64 ax, .int .i64 ay, .int .i64 az, .int .i64 bx, .int .i64 by', .int .i64 bz] 33)
  have hbm := Boxed.alloc (Boxed.alloc (Boxed.alloc HM2.out (.cells #[.slice A M cA] 34)) (.cells #[.int .i64 0] 3)) (.cells #[.int .i64 ax, .int .i64 ay, .int .i64 az, .int .i64 bx, .int .i64 by', .int .i64 bz] 33)
  have hbr := Boxed.alloc (Boxed.alloc (Boxed.alloc HR2.out (.cells #[.slice A M cA] 34)) (.cells #[.int .i64 0] 3)) (.cells #[.int .i64 ax, .int .i64 ay, .int .i64 az, .int .i64 bx, .int .i64 by', .int .i64 bz] 33)
  have hbw := Boxed.alloc (Boxed.alloc (Boxed.new w2 34 (.slice A M cA)) (.cells #[.int .i64 0] 3)) (.cells #[.int .i64 ax, .int .i64 ay, .int .i64 az, .int .i64 bx, .int .i64 by', .int .i64 bz] 33)
  have hbn := Boxed.alloc (Boxed.new (w2.alloc (.cells #[.slice A M cA] 34)) 3 (.int .i64 0)) (.cells #[.int .i64 ax, .int .i64 ay, .int .i64 az, .int .i64 bx, .int .i64 by', .int .i64 bz] 33)
  have hbe := Bk.new ((w2.alloc (.cells #[.slice A M cA] 34)).alloc (.cells #[.int .i64 0] 3)) 33 #[.int .i64 ax, .int .i64 ay, .int .i64 az, .int .i64 bx, .int .i64 by', .int .i64 bz]
  have hk0 : Kp [] w (((w2.alloc (.cells #[.slice A M cA] 34)).alloc (.cells #[.int .i64 0] 3)).alloc (.cells #[.int .i64 ax, .int .i64 ay, .int .i64 az, .int .i64 bx, .int .i64 by', .int .i64 bz] 33)) := ((K2.out.alloc _).alloc _).alloc _
  have hrd0 : Rd (((w2.alloc (.cells #[.slice A M cA] 34)).alloc (.cells #[.int .i64 0] 3)).alloc (.cells #[.int .i64 ax, .int .i64 ay, .int .i64 az, .int .i64 bx, .int .i64 by', .int .i64 bz] 33)) w2.heap.size A (pos3 ax ay az bx bz M) := HRD.out.kp0 ((((Kp.refl [] w2).alloc _).alloc _).alloc _)
  have hsz : (((w2.alloc (.cells #[.slice A M cA] 34)).alloc (.cells #[.int .i64 0] 3)).alloc (.cells #[.int .i64 ax, .int .i64 ay, .int .i64 az, .int .i64 bx, .int .i64 by', .int .i64 bz] 33)).heap.size = w2.heap.size + 3 := by simp
  simp only [World.size_alloc] at hbn hbe
  obtain ⟨W0, hW0⟩ : ∃ W0, ((w2.alloc (.cells #[.slice A M cA] 34)).alloc (.cells #[.int .i64 0] 3)).alloc (.cells #[.int .i64 ax, .int .i64 ay, .int .i64 az, .int .i64 bx, .int .i64 by', .int .i64 bz] 33) = W0 := ⟨_, rfl⟩
  rw [hW0] at hbx hbm hbr hbw hbn hbe hk0 hrd0 hsz ⊢
  clear hW0 HM HB2 HM2 HR2 HRD K2 b0 b1 b2 b3 b4 b5
  have HSZ := Lib.hid hsz
  have hsz3 : w2.heap.size + 3 ≤ W0.heap.size := by omega
  clear hsz
  refine wpIn_rangeFunc_ownH rfl (by omega) (gf := 33) (lb := #[.pointer (some ⟨w2.heap.size + 1 + 1, 0, none⟩)]) rfl trivial (enters_of Try.func33 (by kernel_rfl) rfl)
    (each_stopsF (6 - 1) (by omega) (w2.heap.size + 1 + 1) ax ay az bx by' bz W0 (by omega) hbe) (fun h k => SameBlk.trans h k) (SameBlk.put (by omega)) (Below.refl _ _) (fun _ => rfl)
    (EachIn w2.heap.size W0 most)
    (EachOut w2.heap.size (w.heap.size + 1 + 1) W0 most)
    (EachIn.own _ _ _ _ _ (Nat.le_refl _))
    (fun c => EachOut.own _ _ _ _ _ _ _ (Nat.le_refl _))
    ⟨⟨0, hbn, ⟨by omega, by omega⟩, fun _ => rfl⟩, Kp.refl _ _⟩
    (fun x a' W => ∃ Bx, Bk W Bx 23 #[.int .i64 (eachX ax bx x.val), .int .i64 (eachY ax bx az bz ay x.val), .int .i64 (eachZ ax bx az bz x.val)] ∧ a' = { tmps := #[.agg #[.int .i64 ax, .int .i64 ay, .int .i64 az, .int .i64 bx, .int .i64 by', .int .i64 bz], .int .i64 most, .pointer (some ⟨w.heap.size, 0, none⟩), .pointer (some ⟨w.heap.size + 1, 0, none⟩), .pointer (some ⟨w.heap.size + 1 + 1, 0, none⟩), .bool true, .pointer (some ⟨w2.heap.size, 0, none⟩), .pointer (some ⟨w2.heap.size + 1, 0, none⟩), .pointer (some ⟨Bx, 0, none⟩), .bool true, .bool true, .bool false, .bool false, .int .i64 most, .bool false, .bool false, .bool false, .int .i64 most, .bool false, .bool false, undef, .agg #[.int .i64 ax, .int .i64 ay, .int .i64 az, .int .i64 bx, .int .i64 by', .int .i64 bz], .int .i64 most, .slice A M cA, .agg #[.int .i64 ax, .int .i64 ay, .int .i64 az, .int .i64 bx, .int .i64 by', .int .i64 bz], .func (.func 33) #[] #[.pointer (some ⟨w2.heap.size + 1 + 1, 0, none⟩)], posV (eachX ax bx x.val) (eachY ax bx az bz ay x.val) (eachZ ax bx az bz x.val), undef, undef, undef, undef, undef, undef, undef, undef, undef, undef, undef, undef, undef, undef, undef, undef, undef, undef, undef, undef, undef, undef, undef, undef], defers := [] })
    (fun x a' _ X Y row hs hg hr => by
      obtain ⟨Bx, h2, h3⟩ := hs
      exact ⟨Bx, bk_own Bx 23 (fun (_ : Unit) => #[.int .i64 (eachX ax bx x.val), .int .i64 (eachY ax bx az bz ay x.val), .int .i64 (eachZ ax bx az bz x.val)]) () X Y row h2 hg (fun r e => (hr r e).2), h3⟩)
    ?assign ?body ?done ?stop
  case assign =>
    rintro l pre x W K ⟨⟨n, h1, h3⟩, hk⟩ hK
    unfold posV
    gi_wp2
    refine hK _ _ ((KeepsOthers.alloc _ _).from _) ?_ ⟨⟨n, h1.alloc _, h3⟩, hk.alloc _⟩ ⟨W.heap.size, Bk.new W _ _, rfl⟩
    exact Below.heap_alloc _ _ _ (by have := hk.size; omega)
  case body =>
    rintro l pre x a' W hl ⟨rl, hr⟩ ⟨⟨n, h1, ⟨hn0, hn1⟩, hok⟩, hk⟩ ⟨Bx, hX, rfl⟩ hlt
    have x0 := hX.cell 0
    have x1 := hX.cell 1
    have x2 := hX.cell 2
    have n0 := h1.cell
    have n1 := h1.frozen
    have m0 := Boxed.cell (Bk.kp (g := w.heap.size + 1) hbm hk (by simp; omega))
    have q0 := Boxed.cell (Bk.kp (g := w2.heap.size) hbw hk (by simp))
    have HRb : Hid (Boxed W (w.heap.size + 1 + 1) 4 (.bool false)) := Bk.kp (g := w.heap.size + 1 + 1) hbr hk (by simp; omega)
    have r0 := Boxed.cell HRb.out
    have r1 := Boxed.frozen HRb.out
    have HK := Lib.hid hk
    have H1 := Lib.hid h1
    have HRW : Hid (Rd W w2.heap.size A (pos3 ax ay az bx bz M)) := hrd0.kp hk (by simp)
    have hxN := x.isLt
    have hgood : inOrd (pre ++ [x]) → n = pre.length ∧ x.val = pre.length := fun h => by
      obtain ⟨a, b⟩ := inOrd_snoc h
      exact ⟨hok a, b⟩
    have HGD := Lib.hid hgood
    have HXN : Hid (x.val < eachN ax ay az bx by' bz) := hxN
    simp at x0 x1 x2
    clear hk h1 hok hgood hxN hX
    have HMo : Hid (Kp [w.heap.size + 1 + 1, w2.heap.size + 1] W0 W) := HK.out.mono (fun y hy _ => by simp at hy ⊢; omega)
    have hks := HK.out.size
    have hmx : Try.prog.follows .mixedOrders = true := by kernel_rfl
    by_cases hnM : (M : Int) ≤ n
    · have HF : Hid (inOrd (pre ++ [x]) → False) := fun ho => by
        have e1 := HGD.out ho
        have e2 := HMe.out
        have e3 := HXN.out
        omega
      gi_wp2_with fail
      refine wpIn_region_quietR_lit (by kernel_rfl) (by kernel_rfl) (by kernel_rfl) ?_
      repeat (gi_big_quiet_step (fail))
      refine wpQuietIn_nil ?_
      intro _ hw'
      obtain ⟨nq, hw''⟩ := hw'
      subst hw''
      gi_wp2_with fail
      exact ⟨(keeps_drewN_set _ _ _ _).from _, .inl ⟨rfl, false, Boxed.set (W := W.drewN nq) (v := .bool false) _ HRb.out, HF.out⟩, HMo.out.drewN _ |>.setCell (p := ⟨w.heap.size + 1 + 1, 0, none⟩) (.inl (by simp)) _⟩
    · obtain ⟨j, rfl⟩ := Int.eq_ofNat_of_zero_le hn0
      have hjM : j < M := by omega
      obtain ⟨g, rfl⟩ := HAg.out (by omega)
      obtain ⟨w0, w1', w2'⟩ := pos3_get ax ay az bx bz hjM
      have c0 := HRW.out.at_0 w0
      have c1 := HRW.out.at_0 w1'
      have c2 := HRW.out.at_0 w2'
      have HEQ : Hid (inOrd (pre ++ [x]) → eachX ax bx x.val = eachX ax bx j ∧ eachY ax bx az bz ay x.val = eachY ax bx az bz ay j ∧ eachZ ax bx az bz x.val = eachZ ax bx az bz j) := by
        show _ → _
        intro ho
        have e1 := HGD.out ho
        have e2 : x.val = j := by omega
        rw [e2]
        exact ⟨rfl, rfl, rfl⟩
      have hM5 : (M : Int) ≤ 5000 := by have := HMe.out; omega
      have t5 : decide ((M : Int) ≤ (j : Int)) = false := by simpa using hnM
      have t6 : decide (M ≤ j) = false := by simpa using hnM
      generalize eachX ax bx x.val = px at *
      generalize eachY ax bx az bz ay x.val = py at *
      generalize eachZ ax bx az bz x.val = pz at *
      generalize eachX ax bx j = X at *
      generalize eachY ax bx az bz ay j = Y at *
      generalize eachZ ax bx az bz j = Z at *
      clear w0 w1' w2' hn0 hnM
      have hjM' := Lib.hid hjM
      have hjI : (j : Int) < (M : Int) := by omega
      clear hjM
      have hcmp : (px = X ∧ py = Y ∧ pz = Z) ∨ px ≠ X ∨ (px = X ∧ py ≠ Y) ∨ (px = X ∧ py = Y ∧ pz ≠ Z) := by omega
      rcases hcmp with ⟨rfl, rfl, rfl⟩ | h | ⟨rfl, h⟩ | ⟨rfl, rfl, h⟩
      · gi_wp2_with fail
        refine wpIn_region_quietR_lit (by kernel_rfl) (by kernel_rfl) (by kernel_rfl) ?_
        repeat (gi_big_quiet_step (fail))
        refine wpQuietIn_nil ?_
        intro _ hw'
        obtain ⟨nq, hw''⟩ := hw'
        subst hw''
        by_cases h5 : (j : Int) + 1 = most
        · have h6 : ((j : Int) + 1 == most) = true := by simpa using h5
          gi_wp2_with fail
          refine ⟨(keeps_drewN_set _ _ _ _).from _, .inr ⟨rfl, Bk.kp (w := W.drewN nq) (g := w.heap.size + 1 + 1) HRb.out ((Kp.refl [w2.heap.size + 1] (W.drewN nq)).setCell (p := ⟨w2.heap.size + 1, 0, none⟩) (.inl (by simp)) _) (by simp; omega), ?_, fun ho => ?_⟩, HMo.out.drewN _ |>.setCell (p := ⟨w2.heap.size + 1, 0, none⟩) (.inl (by simp)) _⟩
          · rw [← h5]
            exact Boxed.set (W := W.drewN nq) (v := .int .i64 j) _ H1.out
          · have := HGD.out ho
            simp
            omega
        · have h6 : ((j : Int) + 1 == most) = false := by simpa using h5
          gi_wp2_with fail
          refine ⟨(keeps_drewN_set _ _ _ _).from _, ?_, ⟨(j : Int) + 1, Boxed.set (W := W.drewN nq) (v := .int .i64 j) _ H1.out, ⟨by omega, by omega⟩, fun ho => ?_⟩, HK.out.drewN _ |>.setCell (p := ⟨w2.heap.size + 1, 0, none⟩) (.inl (by simp)) _⟩
          · show SameBlk _ _ _
            have mk := HK.out.drewN nq |>.setCell (p := ⟨w2.heap.size + 1, 0, none⟩) (.inl (by simp)) (.int .i64 (j + 1))
            exact (mk.block _ (by omega) (by simp)).trans (HK.out.block _ (by omega) (by simp)).symm
          · have := HGD.out ho
            simp
            omega
      · have HF : Hid (inOrd (pre ++ [x]) → False) := fun ho => h (HEQ.out ho).1
        gi_wp2_with fail
        refine wpIn_region_quietR_lit (by kernel_rfl) (by kernel_rfl) (by kernel_rfl) ?_
        repeat (gi_big_quiet_step (fail))
        refine wpQuietIn_nil ?_
        intro _ hw'
        obtain ⟨nq, hw''⟩ := hw'
        subst hw''
        gi_wp2_with fail
        exact ⟨(keeps_drewN_set _ _ _ _).from _, .inl ⟨rfl, false, Boxed.set (W := W.drewN nq) (v := .bool false) _ HRb.out, HF.out⟩, HMo.out.drewN _ |>.setCell (p := ⟨w.heap.size + 1 + 1, 0, none⟩) (.inl (by simp)) _⟩
      · have HF : Hid (inOrd (pre ++ [x]) → False) := fun ho => h (HEQ.out ho).2.1
        gi_wp2_with fail
        refine wpIn_region_quietR_lit (by kernel_rfl) (by kernel_rfl) (by kernel_rfl) ?_
        repeat (gi_big_quiet_step (fail))
        refine wpQuietIn_nil ?_
        intro _ hw'
        obtain ⟨nq, hw''⟩ := hw'
        subst hw''
        gi_wp2_with fail
        exact ⟨(keeps_drewN_set _ _ _ _).from _, .inl ⟨rfl, false, Boxed.set (W := W.drewN nq) (v := .bool false) _ HRb.out, HF.out⟩, HMo.out.drewN _ |>.setCell (p := ⟨w.heap.size + 1 + 1, 0, none⟩) (.inl (by simp)) _⟩
      · have HF : Hid (inOrd (pre ++ [x]) → False) := fun ho => h (HEQ.out ho).2.2
        gi_wp2_with fail
        refine wpIn_region_quietR_lit (by kernel_rfl) (by kernel_rfl) (by kernel_rfl) ?_
        repeat (gi_big_quiet_step (fail))
        refine wpQuietIn_nil ?_
        intro _ hw'
        obtain ⟨nq, hw''⟩ := hw'
        subst hw''
        gi_wp2_with fail
        exact ⟨(keeps_drewN_set _ _ _ _).from _, .inl ⟨rfl, false, Boxed.set (W := W.drewN nq) (v := .bool false) _ HRb.out, HF.out⟩, HMo.out.drewN _ |>.setCell (p := ⟨w.heap.size + 1 + 1, 0, none⟩) (.inl (by simp)) _⟩
  case done =>
    rintro D ys W hD rfl ⟨⟨n, h1, ⟨hn0, hn1⟩, hok⟩, hk⟩ hK
    have hn := hok inOrd_all
    rw [List.length_finRange] at hn
    have hnM : n = (M : Int) := by have := HMe.out; omega
    subst hnM
    have n0 := h1.cell
    have q0 := Boxed.cell (Bk.kp (g := w2.heap.size) hbw hk (by simp))
    have hRb : Boxed W (w.heap.size + 1 + 1) 4 (.bool false) := Bk.kp (g := w.heap.size + 1 + 1) hbr hk (by simp; omega)
    have r0 := hRb.cell
    have r1 := hRb.frozen
    have HKw : Hid (Kp [] w W) := hk0.trans hk (fun x hx hlt => by simp at hx; omega)
    have HRb := Lib.hid hRb
    clear hbx hbm hbr hbw hbn hbe hrd0 h1 hok hk hRb hn
    have HKd := Lib.hid hK
    gi_wp2_with fail
    have hb2 := Boxed.set (v := .bool false) (.bool true) HRb.out
    have hK' := (KeepsOthers.setCell W ⟨w.heap.size + 1 + 1, 0, none⟩ (.bool true)).same D _ HKd.out rfl
    refine ⟨by simp, .inl ⟨_, _, rfl, run_takeDeferred hK', ?_⟩⟩
    have hc5 := cell_kept hb2.cell (grownBy_putObj' _ D (.deferred none)) (fun r e => by cases e; exact ⟨_, hK', rfl⟩)
    refine ⟨.bool true, ?_, rfl, ?_⟩
    · simp [results, Try.f5, go_sem, hc5]
    · have hkk := HKw.out.setCell (p := ⟨w.heap.size + 1 + 1, 0, none⟩) (.inr (by simp; omega)) (.bool true)
      exact hkk.grown (grownBy_putObj' _ D _) (fun k e hlt => by cases e; have := hk0.size; omega)
  case stop =>
    rintro D c pre W hD ⟨k, hkN, rfl⟩ ⟨hs, hk⟩ hK
    rcases hs with ⟨rfl, b, hb, hb2⟩ | ⟨rfl, hb, hn, hb2⟩
    · exact absurd inOrd_take hb2
    · have hb3 := hb2 inOrd_take
      have hnM : most = (M : Int) := by have := HMe.out; simp at hb3; omega
      rw [hnM] at hn
      have n0 := hn.cell
      have r0 := hb.cell
      have r1 := hb.frozen
      have q0 := Boxed.cell (Bk.kp (g := w2.heap.size) hbw hk (by simp; omega))
      have HKw : Hid (Kp [] w W) := hk0.trans hk (fun x hx hlt => by simp at hx; omega)
      have HRb := Lib.hid hb
      clear hbx hbm hbr hbw hbn hbe hrd0 hk hb hn hb2 hb3
      have HKd := Lib.hid hK
      gi_wp2_with fail
      have hb2 := Boxed.set (v := .bool false) (.bool true) HRb.out
      have hK' := (KeepsOthers.setCell W ⟨w.heap.size + 1 + 1, 0, none⟩ (.bool true)).same D _ HKd.out rfl
      refine ⟨by simp, .inl ⟨_, _, rfl, run_takeDeferred hK', ?_⟩⟩
      have hc5 := cell_kept hb2.cell (grownBy_putObj' _ D (.deferred none)) (fun r e => by cases e; exact ⟨_, hK', rfl⟩)
      refine ⟨.bool true, ?_, rfl, ?_⟩
      · simp [results, Try.f5, go_sem, hc5]
      · have hkk := HKw.out.setCell (p := ⟨w.heap.size + 1 + 1, 0, none⟩) (.inr (by simp; omega)) (.bool true)
        exact hkk.grown (grownBy_putObj' _ D _) (fun k e hlt => by cases e; have := hk0.size; omega)

theorem GridEach_walk (w : World) (ax ay az bx by' bz most : Int) :
    Calls Try.prog 5 #[boxV ax ay az bx by' bz, .int .i64 most] w fun e w' => e = .returned (.bool true) ∧ Kp [] w w' := by
  by_cases h : 1 ≤ most ∧ most ≤ 5000
  · exact (callsIn_wide (n := 6)).1 (GridEach_in ax ay az bx by' bz most h.1 h.2 w)
  · have HA := Lib.hid (fun w => awake w)
    have h' : most < 1 ∨ (1 ≤ most ∧ 5000 < most) := by omega
    clear h
    unfold boxV
    go_enter Try.func5, Try.ntmps5
    go_wp2_with fail
    refine (HA.out _).mono ?_
    rintro e w1 ⟨rfl, k1⟩
    have hm0 : Boxed w1 (w.heap.size + 1) 3 (.int .i64 most) := by
      have h := Boxed.alloc (Boxed.new (w.alloc (.cells #[.int .i64 ax, .int .i64 ay, .int .i64 az, .int .i64 bx, .int .i64 by', .int .i64 bz] 33)) 3 (.int .i64 most)) (.cells #[.bool false] 4)
      rw [World.size_alloc] at h
      exact Bk.kp (g := w.heap.size + 1) h k1 (by simp)
    have hr0 : Boxed w1 (w.heap.size + 1 + 1) 4 (.bool false) := by
      have h := Boxed.new ((w.alloc (.cells #[.int .i64 ax, .int .i64 ay, .int .i64 az, .int .i64 bx, .int .i64 by', .int .i64 bz] 33)).alloc (.cells #[.int .i64 most] 3)) 4 (.bool false)
      rw [World.size_alloc, World.size_alloc] at h
      exact Bk.kp (g := w.heap.size + 1 + 1) h k1 (by simp)
    have K1 : Hid (Kp [] w w1) := ((((Kp.refl [] w).alloc _).alloc _).alloc _).then k1
    have m0 := hm0.cell
    have r0 := hr0.cell
    have r1 := hr0.frozen
    have HR0 := Lib.hid hr0
    clear k1 hr0 hm0
    rcases h' with h | ⟨h1, h2⟩
    · have t1 : decide (most < 1) = true := by simpa using h
      go_wp2_with fail
      exact bodyPost_ret (v := .bool true) (by simp [results, Try.f5, go_sem, Boxed.cell (Boxed.set (v := .bool false) (.bool true) HR0.out)]) rfl ⟨rfl, K1.out.setCell (p := ⟨w.heap.size + 1 + 1, 0, none⟩) (.inr (by simp; omega)) _⟩
    · have t1 : decide (most < 1) = false := by simpa using h1
      have t2 : decide (5000 < most) = true := by simpa using h2
      go_wp2_with fail
      exact bodyPost_ret (v := .bool true) (by simp [results, Try.f5, go_sem, Boxed.cell (Boxed.set (v := .bool false) (.bool true) HR0.out)]) rfl ⟨rfl, K1.out.setCell (p := ⟨w.heap.size + 1 + 1, 0, none⟩) (.inr (by simp; omega)) _⟩
end Go.Proofs.Ythjbapjmlkbeoaa
