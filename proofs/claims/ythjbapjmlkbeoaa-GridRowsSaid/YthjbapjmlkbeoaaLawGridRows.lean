/- GridRows: the cells of a box come by rising places, each once, all of them in the box. -/
import Derived.Deep.Onto
import Derived.RangeFuncBox
import Derived.Test.YthjbapjmlkbeoaaNear
import Derived.Test.YthjbapjmlkbeoaaBoxOrder
import Derived.Test.YthjbapjmlkbeoaaHas
import Derived.Test.YthjbapjmlkbeoaaAwake04
import Derived.Test.YthjbapjmlkbeoaaFlat
namespace Go.Proofs.Ythjbapjmlkbeoaa
open Go.RowKit Go.Shelf
set_option linter.unusedVariables false
set_option linter.unusedSimpArgs false

attribute [local go_sem] Oper.semAt_some

/-- What the variables n, last hold behind the places pre. -/
def RowsOk (ax ay az bx by' bz : Int) (pre : List (Fin (eachN ax ay az bx by' bz))) (n lx ly lz : Int) : Prop :=
  (0 ≤ n ∧ n < 5000) ∧ (n = 0 → lx = ax ∧ ly = ay ∧ lz = az) ∧ (inOrd pre → n = pre.length ∧ (0 < pre.length → lx = eachX ax bx (pre.length - 1) ∧ ly = eachY ax bx az bz ay (pre.length - 1) ∧ lz = eachZ ax bx az bz (pre.length - 1)))
theorem rows_ord {ax ay az bx by' bz : Int} {pre : List (Fin (eachN ax ay az bx by' bz))} {n lx ly lz : Int} (x : Fin (eachN ax ay az bx by' bz)) (h : RowsOk ax ay az bx by' bz pre n lx ly lz) (ho : inOrd (pre ++ [x])) :
    (n = 0 ∧ eachX ax bx x.val = ax ∧ eachY ax bx az bz ay x.val = ay ∧ eachZ ax bx az bz x.val = az) ∨ (0 < n ∧ (ly < eachY ax bx az bz ay x.val ∨ (eachY ax bx az bz ay x.val = ly ∧ (lz < eachZ ax bx az bz x.val ∨ (eachZ ax bx az bz x.val = lz ∧ lx < eachX ax bx x.val))))) := by
  obtain ⟨h1, h2⟩ := inOrd_snoc ho
  obtain ⟨hn, h3⟩ := h.2.2 h1
  by_cases h0 : pre.length = 0
  · refine .inl ⟨by omega, ?_⟩
    rw [h2, h0]
    exact each_first ax ay az bx bz
  · refine .inr ⟨by omega, ?_⟩
    obtain ⟨e1, e2, e3⟩ := h3 (by omega)
    have h4 := each_next (ax := ax) (ay := ay) (az := az) (bx := bx) (by' := by') (bz := bz) (j := pre.length - 1) (by have := x.isLt; omega)
    rw [show pre.length - 1 + 1 = x.val by omega, ← e1, ← e2, ← e3] at h4
    exact h4
theorem rows_step {ax ay az bx by' bz : Int} {pre : List (Fin (eachN ax ay az bx by' bz))} {n lx ly lz : Int} (x : Fin (eachN ax ay az bx by' bz)) (h : RowsOk ax ay az bx by' bz pre n lx ly lz) (h5 : n + 1 < 5000) :
    RowsOk ax ay az bx by' bz (pre ++ [x]) (n + 1) (eachX ax bx x.val) (eachY ax bx az bz ay x.val) (eachZ ax bx az bz x.val) := by
  obtain ⟨⟨h1, h2⟩, h3, h4⟩ := h
  refine ⟨⟨by omega, h5⟩, fun e => by omega, fun ho => ?_⟩
  obtain ⟨h6, h7⟩ := inOrd_snoc ho
  rw [List.length_append, List.length_singleton, Nat.add_sub_cancel, ← h7]
  exact ⟨by have := (h4 h6).1; omega, fun _ => ⟨rfl, rfl, rfl⟩⟩
theorem has11 {w : World} {p0 p1 p2 p3 p4 p5 p6 p7 p8 p9 p10 : Addr × Value} (h : Has w [p0, p1, p2, p3, p4, p5, p6, p7, p8, p9, p10]) : w.cell? p0.1 = some p0.2 ∧ w.cell? p1.1 = some p1.2 ∧ w.cell? p2.1 = some p2.2 ∧ w.cell? p3.1 = some p3.2 ∧ w.cell? p4.1 = some p4.2 ∧ w.cell? p5.1 = some p5.2 ∧ w.cell? p6.1 = some p6.2 ∧ w.cell? p7.1 = some p7.2 ∧ w.cell? p8.1 = some p8.2 ∧ w.cell? p9.1 = some p9.2 ∧ w.cell? p10.1 = some p10.2 := h

/-- The stores of one round. -/
theorem rows_world {W : World} {A B tI tP : Nat} {u v a b c lx ly lz : Value} (h1 : Boxed W A tI u) (h2 : Bk W B tP #[lx, ly, lz]) (hAB : A ≠ B) :
    Boxed ((((W.setCell ⟨B, 0, none⟩ a).setCell ⟨B, 1, none⟩ b).setCell ⟨B, 2, none⟩ c).setCell ⟨A, 0, none⟩ v) A tI v ∧ Bk ((((W.setCell ⟨B, 0, none⟩ a).setCell ⟨B, 1, none⟩ b).setCell ⟨B, 2, none⟩ c).setCell ⟨A, 0, none⟩ v) B tP #[a, b, c] ∧
      KeepsOthers W ((((W.setCell ⟨B, 0, none⟩ a).setCell ⟨B, 1, none⟩ b).setCell ⟨B, 2, none⟩ c).setCell ⟨A, 0, none⟩ v) ∧
      ∀ (S : List Nat) (w0 : World), Kp S w0 W → A ∈ S → B ∈ S → Kp S w0 ((((W.setCell ⟨B, 0, none⟩ a).setCell ⟨B, 1, none⟩ b).setCell ⟨B, 2, none⟩ c).setCell ⟨A, 0, none⟩ v) := by
  refine ⟨?_, ?_, (((KeepsOthers.setCell _ _ _).trans (KeepsOthers.setCell _ _ _)).trans (KeepsOthers.setCell _ _ _)).trans (KeepsOthers.setCell _ _ _), fun S w0 k hA hB => (((k.setCell (p := ⟨B, 0, none⟩) (.inl hB) a).setCell (p := ⟨B, 1, none⟩) (.inl hB) b).setCell (p := ⟨B, 2, none⟩) (.inl hB) c).setCell (p := ⟨A, 0, none⟩) (.inl hA) v⟩
  · exact Boxed.set (v := u) v (Bk.far (Bk.far (Bk.far h1 (p := ⟨B, 0, none⟩) hAB a) (p := ⟨B, 1, none⟩) hAB b) (p := ⟨B, 2, none⟩) hAB c)
  · exact Bk.far (((h2.put 0 a).put 1 b).put 2 c) (p := ⟨A, 0, none⟩) (fun e => hAB e.symm) v
def RowsIn (B : Nat) (W0 : World) (ax ay az bx by' bz : Int) (pre : List (Fin (eachN ax ay az bx by' bz))) (W : World) : Prop :=
  (∃ n lx ly lz : Int, Boxed W (B + 1) 3 (.int .i64 n) ∧ Bk W (B + 1 + 1) 23 #[.int .i64 lx, .int .i64 ly, .int .i64 lz] ∧ RowsOk ax ay az bx by' bz pre n lx ly lz) ∧ Kp [B + 1, B + 1 + 1] W0 W
def RowsOut (B R : Nat) (W0 : World) (ax ay az bx by' bz : Int) (c : Code) (pre : List (Fin (eachN ax ay az bx by' bz))) (W : World) : Prop :=
  (c = .ret ∧ ∃ b : Bool, Boxed W R 4 (.bool b) ∧ (inOrd pre → b = true)) ∧ Kp [R, B + 1, B + 1 + 1] W0 W
theorem RowsIn.own (B : Nat) (W0 : World) (ax ay az bx by' bz : Int) (C : Nat) (h : W0.heap.size ≤ C) : OwnFrom C (RowsIn B W0 ax ay az bx by' bz) := fun s X Y row hs hg hr => by
  obtain ⟨⟨n, lx, ly, lz, h1, h2, h3⟩, hk⟩ := hs
  exact ⟨⟨n, lx, ly, lz, boxed_own _ _ (fun (_ : Unit) => Value.int .i64 n) () X Y row h1 hg (fun r e => (hr r e).2), bk_own _ _ (fun (_ : Unit) => #[.int .i64 lx, .int .i64 ly, .int .i64 lz]) () X Y row h2 hg (fun r e => (hr r e).2), h3⟩, kp_own (β := Unit) h () X Y row hk hg hr⟩
theorem RowsOut.own (B R : Nat) (W0 : World) (ax ay az bx by' bz : Int) (c : Code) (C : Nat) (h : W0.heap.size ≤ C) : OwnFrom C (RowsOut B R W0 ax ay az bx by' bz c) := fun s X Y row hs hg hr => by
  obtain ⟨⟨rfl, b, h1, h3⟩, hk⟩ := hs
  exact ⟨⟨rfl, b, boxed_own _ _ (fun (_ : Unit) => Value.bool b) () X Y row h1 hg (fun r e => (hr r e).2), h3⟩, kp_own (β := Unit) h () X Y row hk hg hr⟩

set_option maxRecDepth 100000 in
set_option maxHeartbeats 8000000 in
theorem GridRows_in (ax ay az bx by' bz : Int) (w : World) :
    CallsIn Fence.wide 6 Try.prog 7 #[boxV ax ay az bx by' bz] w fun e w' => e = .returned (.bool true) ∧ Kp [] w w' := by
  have HM := Lib.hid (fun n w => each_made n ax ay az bx by' bz w)
  have HCnt := Lib.hid (grid_Count ax ay az bx by' bz)
  unfold boxV at *
  refine callsIn_of_wp_marks Try.func7 rfl trivial ?_ rfl
  simp only [Try.ntmps7, List.size_toArray, List.length_cons, List.length_nil, Nat.reduceAdd, Nat.reduceSub, Array.replicate_succ, Array.replicate_zero, List.push_toArray, List.append_toArray, List.nil_append, List.cons_append]
  gi_wp2_with fail
  refine ⟨trivial, (callsIn_wide.2 (awake _)).mono ?_⟩
  rintro e w1 ⟨rfl, k1⟩
  have hb0 : Bk w1 w.heap.size 33 #[.int .i64 ax, .int .i64 ay, .int .i64 az, .int .i64 bx, .int .i64 by', .int .i64 bz] := ((Bk.new w _ _).alloc (.cells #[.bool false] 4)).kp k1 (by simp)
  have hr0 : Boxed w1 (w.heap.size + 1) 4 (.bool false) := by
    have h := Boxed.new (w.alloc (.cells #[.int .i64 ax, .int .i64 ay, .int .i64 az, .int .i64 bx, .int .i64 by', .int .i64 bz] 33)) 4 (.bool false)
    rw [World.size_alloc] at h
    exact Bk.kp (g := w.heap.size + 1) h k1 (by simp)
  have K1 : Hid (Kp [] w w1) := (((Kp.refl [] w).alloc _).alloc _).then k1
  have hs1 : w.heap.size + 2 ≤ w1.heap.size := by have := k1.size; simp at this; omega
  have hh : Has w1 [(⟨w.heap.size, 0, none⟩, .int .i64 ax), (⟨w.heap.size, 1, none⟩, .int .i64 ay), (⟨w.heap.size, 2, none⟩, .int .i64 az), (⟨w.heap.size, 3, none⟩, .int .i64 bx), (⟨w.heap.size, 4, none⟩, .int .i64 by'), (⟨w.heap.size, 5, none⟩, .int .i64 bz)] := ⟨hb0.cell 0, hb0.cell 1, hb0.cell 2, hb0.cell 3, hb0.cell 4, hb0.cell 5⟩
  obtain ⟨b0, b1, b2, b3, b4, b5⟩ := has6 ((hh.alloc (.cells #[.bool true] 4)).alloc (.cells #[.int .i64 0] 3))
  obtain ⟨c0, c1, c2, c3, c4, c5⟩ := has6 (((hh.alloc (.cells #[.bool true] 4)).alloc (.cells #[.int .i64 0] 3)).alloc (.cells #[.int .i64 ax, .int .i64 ay, .int .i64 az] 23))
  have HB0 := Lib.hid hb0
  have HR0 := Lib.hid hr0
  clear k1 hb0 hr0 hh
  gi_wp2_with (refine ⟨trivial, ?_⟩; gi_at_call 21; refine (HM.out _ _).mono ?_; rintro e w' ⟨rfl, rfl⟩)
  have hbx := (((HB0.out.alloc (.cells #[.bool true] 4)).alloc (.cells #[.int .i64 0] 3)).alloc (.cells #[.int .i64 ax, .int .i64 ay, .int .i64 az] 23)).alloc (.cells #[.int .i64 ax, .int .i64 ay, .int .i64 az, .int .i64 bx, .int .i64 by', .int .i64 bz] 33)
  have hbr := Boxed.alloc (Boxed.alloc (Boxed.alloc (Boxed.alloc HR0.out (.cells #[.bool true] 4)) (.cells #[.int .i64 0] 3)) (.cells #[.int .i64 ax, .int .i64 ay, .int .i64 az] 23)) (.cells #[.int .i64 ax, .int .i64 ay, .int .i64 az, .int .i64 bx, .int .i64 by', .int .i64 bz] 33)
  have hbu := Boxed.alloc (Boxed.alloc (Boxed.alloc (Boxed.new w1 4 (.bool true)) (.cells #[.int .i64 0] 3)) (.cells #[.int .i64 ax, .int .i64 ay, .int .i64 az] 23)) (.cells #[.int .i64 ax, .int .i64 ay, .int .i64 az, .int .i64 bx, .int .i64 by', .int .i64 bz] 33)
  have hbn := Boxed.alloc (Boxed.alloc (Boxed.new (w1.alloc (.cells #[.bool true] 4)) 3 (.int .i64 0)) (.cells #[.int .i64 ax, .int .i64 ay, .int .i64 az] 23)) (.cells #[.int .i64 ax, .int .i64 ay, .int .i64 az, .int .i64 bx, .int .i64 by', .int .i64 bz] 33)
  have hbl := Bk.alloc (Bk.new ((w1.alloc (.cells #[.bool true] 4)).alloc (.cells #[.int .i64 0] 3)) 23 #[.int .i64 ax, .int .i64 ay, .int .i64 az]) (.cells #[.int .i64 ax, .int .i64 ay, .int .i64 az, .int .i64 bx, .int .i64 by', .int .i64 bz] 33)
  have hbe := Bk.new (((w1.alloc (.cells #[.bool true] 4)).alloc (.cells #[.int .i64 0] 3)).alloc (.cells #[.int .i64 ax, .int .i64 ay, .int .i64 az] 23)) 33 #[.int .i64 ax, .int .i64 ay, .int .i64 az, .int .i64 bx, .int .i64 by', .int .i64 bz]
  have hk0 : Kp [] w ((((w1.alloc (.cells #[.bool true] 4)).alloc (.cells #[.int .i64 0] 3)).alloc (.cells #[.int .i64 ax, .int .i64 ay, .int .i64 az] 23)).alloc (.cells #[.int .i64 ax, .int .i64 ay, .int .i64 az, .int .i64 bx, .int .i64 by', .int .i64 bz] 33)) := (((K1.out.alloc _).alloc _).alloc _).alloc _
  have hsz : ((((w1.alloc (.cells #[.bool true] 4)).alloc (.cells #[.int .i64 0] 3)).alloc (.cells #[.int .i64 ax, .int .i64 ay, .int .i64 az] 23)).alloc (.cells #[.int .i64 ax, .int .i64 ay, .int .i64 az, .int .i64 bx, .int .i64 by', .int .i64 bz] 33)).heap.size = w1.heap.size + 4 := by simp
  simp only [World.size_alloc] at hbn hbl hbe
  obtain ⟨W0, hW0⟩ : ∃ W0, (((w1.alloc (.cells #[.bool true] 4)).alloc (.cells #[.int .i64 0] 3)).alloc (.cells #[.int .i64 ax, .int .i64 ay, .int .i64 az] 23)).alloc (.cells #[.int .i64 ax, .int .i64 ay, .int .i64 az, .int .i64 bx, .int .i64 by', .int .i64 bz] 33) = W0 := ⟨_, rfl⟩
  rw [hW0] at hbx hbr hbu hbn hbl hbe hk0 hsz ⊢
  clear hW0 HM HB0 HR0 K1 b0 b1 b2 b3 b4 b5 c0 c1 c2 c3 c4 c5
  refine wpIn_rangeFunc_ownH rfl (by omega) (gf := 33) (lb := #[.pointer (some ⟨w1.heap.size + 1 + 1 + 1, 0, none⟩)]) rfl trivial (enters_of Try.func33 (by kernel_rfl) rfl)
    (each_stopsF (6 - 1) (by omega) (w1.heap.size + 1 + 1 + 1) ax ay az bx by' bz W0 (by omega) hbe) (fun h k => SameBlk.trans h k) (SameBlk.put (by omega)) (Below.refl _ _) (fun _ => rfl)
    (RowsIn w1.heap.size W0 ax ay az bx by' bz)
    (RowsOut w1.heap.size (w.heap.size + 1) W0 ax ay az bx by' bz)
    (RowsIn.own _ _ _ _ _ _ _ _ _ (Nat.le_refl _))
    (fun c => RowsOut.own _ _ _ _ _ _ _ _ _ _ _ (Nat.le_refl _))
    ⟨⟨0, ax, ay, az, hbn, hbl, ⟨by omega, by omega⟩, fun _ => ⟨rfl, rfl, rfl⟩, fun _ => ⟨rfl, fun h => by simp at h⟩⟩, Kp.refl _ _⟩
    (fun x a' W => ∃ Bx, Bk W Bx 23 #[.int .i64 (eachX ax bx x.val), .int .i64 (eachY ax bx az bz ay x.val), .int .i64 (eachZ ax bx az bz x.val)] ∧ a' = { tmps := #[.agg #[.int .i64 ax, .int .i64 ay, .int .i64 az, .int .i64 bx, .int .i64 by', .int .i64 bz], .pointer (some ⟨w.heap.size, 0, none⟩), .pointer (some ⟨w.heap.size + 1, 0, none⟩), .pointer (some ⟨w1.heap.size, 0, none⟩), .pointer (some ⟨w1.heap.size + 1, 0, none⟩), .pointer (some ⟨w1.heap.size + 1 + 1, 0, none⟩), .pointer (some ⟨Bx, 0, none⟩), undef, .bool true, .pointer (some ⟨w.heap.size, 0, none⟩), .agg #[.int .i64 ax, .int .i64 ay, .int .i64 az], .bool true, .bool false, .agg #[.int .i64 ax, .int .i64 ay, .int .i64 az, .int .i64 bx, .int .i64 by', .int .i64 bz], .func (.func 33) #[] #[.pointer (some ⟨w1.heap.size + 1 + 1 + 1, 0, none⟩)], posV (eachX ax bx x.val) (eachY ax bx az bz ay x.val) (eachZ ax bx az bz x.val), undef, undef, undef, undef, undef, undef, undef, undef, undef, undef, undef, undef, undef, undef, undef, undef, undef, undef, undef, undef, undef, undef, undef, undef, undef, undef, undef, undef, undef, undef, undef, undef, undef, undef, undef, undef, undef, undef, undef, undef, undef, undef, undef, undef, undef, undef, undef, undef, undef, undef, undef, undef, undef, undef, undef, undef, undef, undef, undef, undef, undef, undef, undef, undef, undef, undef, undef, undef, undef, undef, undef, undef, undef, undef, undef, undef, undef, undef, undef, undef, undef, undef, undef, undef, undef, undef, undef, undef, undef, undef, undef, undef, undef, undef, undef, undef, undef, undef, undef, undef, undef, undef, undef, undef, undef, undef, undef, undef, undef, undef, undef, undef, undef, undef, undef, undef, undef, undef], defers := [] })
    (fun x a' _ X Y row hs hg hr => by
      obtain ⟨Bx, h2, h3⟩ := hs
      exact ⟨Bx, bk_own Bx 23 (fun (_ : Unit) => #[.int .i64 (eachX ax bx x.val), .int .i64 (eachY ax bx az bz ay x.val), .int .i64 (eachZ ax bx az bz x.val)]) () X Y row h2 hg (fun r e => (hr r e).2), h3⟩)
    ?assign ?body ?done ?stop
  case assign =>
    rintro l pre x W K ⟨⟨n, lx, ly, lz, h1, h2, h3⟩, hk⟩ hK
    unfold posV
    gi_wp2
    refine hK _ _ ((KeepsOthers.alloc _ _).from _) ?_ ⟨⟨n, lx, ly, lz, h1.alloc _, h2.alloc _, h3⟩, hk.alloc _⟩ ⟨W.heap.size, Bk.new W _ _, rfl⟩
    exact Below.heap_alloc _ _ _ (by have := hk.size; omega)
  case body =>
    rintro l pre x a' W hl ⟨rl, hr⟩ ⟨⟨n, lx, ly, lz, h1, h2, hok⟩, hk⟩ ⟨Bx, hX, rfl⟩ hlt
    have hbox := each_in_box x.isLt
    obtain ⟨⟨p1, p2⟩, ⟨p3, p4⟩, p5, p6⟩ := hbox
    have HORD := Lib.hid (rows_ord x hok)
    have HSTEP := Lib.hid (rows_step x hok)
    obtain ⟨⟨hn0, hn1⟩, hz, _⟩ := hok
    have x0 := hX.cell 0
    have x1 := hX.cell 1
    have x2 := hX.cell 2
    have l0 := h2.cell 0
    have l1 := h2.cell 1
    have l2 := h2.cell 2
    have g0 := h2.frozen 0
    have g1 := h2.frozen 1
    have g2 := h2.frozen 2
    have n0 := h1.cell
    have n1 := h1.frozen
    have q0 := (hbx.kp hk (by simp; omega)).cell 0
    have q1 := (hbx.kp hk (by simp; omega)).cell 1
    have q2 := (hbx.kp hk (by simp; omega)).cell 2
    have q3 := (hbx.kp hk (by simp; omega)).cell 3
    have q4 := (hbx.kp hk (by simp; omega)).cell 4
    have q5 := (hbx.kp hk (by simp; omega)).cell 5
    have HRb : Hid (Boxed W (w.heap.size + 1) 4 (.bool false)) := Bk.kp (g := w.heap.size + 1) hbr hk (by simp; omega)
    have u0 := Boxed.cell (Bk.kp (g := w1.heap.size) hbu hk (by simp; omega))
    have r0 := Boxed.cell HRb.out
    have r1 := Boxed.frozen HRb.out
    have hks := hk.size
    have HK := Lib.hid hk
    have HX := Lib.hid hX
    have H1 := Lib.hid h1
    have H2 := Lib.hid h2
    simp at x0 x1 x2 l0 l1 l2 q0 q1 q2 q3 q4 q5
    clear hk hX h1 h2
    generalize eachX ax bx x.val = px at *
    generalize eachY ax bx az bz ay x.val = py at *
    generalize eachZ ax bx az bz x.val = pz at *
    have t1 : decide (px < ax) = false := by simpa using p1
    have t2 : decide (bx < px) = false := by simpa using p2
    have t3 : decide (py < ay) = false := by simpa using p3
    have t4 : decide (by' < py) = false := by simpa using p4
    have t5 : decide (pz < az) = false := by simpa using p5
    have t6 : decide (bz < pz) = false := by simpa using p6
    have HMo : Hid (Kp [w.heap.size + 1, w1.heap.size + 1, w1.heap.size + 1 + 1] W0 W) := HK.out.mono (fun y hy _ => by simp at hy ⊢; omega)
    have HK2 : True := trivial
    by_cases hn : n = 0
    · obtain ⟨rfl, rfl, rfl⟩ := hz hn
      subst hn
      clear hz
      have hc : ly < py ∨ (py = ly ∧ lz < pz) ∨ (py = ly ∧ pz = lz ∧ lx < px) ∨ (py = ly ∧ pz = lz ∧ px = lx) := by omega
      rcases hc with h | ⟨rfl, h⟩ | ⟨rfl, rfl, h⟩ | ⟨rfl, rfl, rfl⟩
      · have HF : Hid (¬ inOrd (pre ++ [x])) := fun ho => by have := HORD.out ho; omega
        have e2 : py ≠ ly := by omega
        clear HK2
        gi_wp2_with fail
        exact ⟨(KeepsOthers.setCell _ _ _).from _, ⟨rfl, false, Boxed.set (v := .bool false) _ HRb.out, fun ho => absurd ho HF.out⟩, HMo.out.setCell (p := ⟨w.heap.size + 1, 0, none⟩) (.inl (by simp)) _⟩
      · have HF : Hid (¬ inOrd (pre ++ [x])) := fun ho => by have := HORD.out ho; omega
        have e3 : (decide (py < py)) = false := by simp
        have e2 : pz ≠ lz := by omega
        clear HK2
        gi_wp2_with fail
        exact ⟨(KeepsOthers.setCell _ _ _).from _, ⟨rfl, false, Boxed.set (v := .bool false) _ HRb.out, fun ho => absurd ho HF.out⟩, HMo.out.setCell (p := ⟨w.heap.size + 1, 0, none⟩) (.inl (by simp)) _⟩
      · have HF : Hid (¬ inOrd (pre ++ [x])) := fun ho => by have := HORD.out ho; omega
        have e3 : (decide (py < py)) = false := by simp
        have e4 : (decide (pz < pz)) = false := by simp
        have e2 : px ≠ lx := by omega
        clear HK2
        gi_wp2_with fail
        exact ⟨(KeepsOthers.setCell _ _ _).from _, ⟨rfl, false, Boxed.set (v := .bool false) _ HRb.out, fun ho => absurd ho HF.out⟩, HMo.out.setCell (p := ⟨w.heap.size + 1, 0, none⟩) (.inl (by simp)) _⟩
      · clear HK2
        gi_wp2_with fail
        obtain ⟨m1, m2, m3, m4⟩ := rows_world (v := .int .i64 1) (a := .int .i64 px) (b := .int .i64 py) (c := .int .i64 pz) H1.out H2.out (by omega)
        have mk := m4 [w1.heap.size + 1, w1.heap.size + 1 + 1] W0 HK.out (by simp) (by simp)
        refine ⟨m3.from _, ?_, ⟨_, _, _, _, m1, m2, HSTEP.out (by omega)⟩, mk⟩
        exact (mk.block _ (by omega) (by simp; omega)).trans (HK.out.block _ (by omega) (by simp; omega)).symm
    · have hn' : 0 < n := by omega
      have e0 : (n == 0) = false := by simpa using hn
      have hc : ly < py ∨ (py = ly ∧ lz < pz) ∨ (py = ly ∧ pz = lz ∧ lx < px) ∨ (py < ly) ∨ (py = ly ∧ pz < lz) ∨ (py = ly ∧ pz = lz ∧ px ≤ lx) := by omega
      clear hz
      rcases hc with h | ⟨rfl, h⟩ | ⟨rfl, rfl, h⟩ | h | ⟨rfl, h⟩ | ⟨rfl, rfl, h⟩
      · by_cases h5 : n + 1 = 5000
        · obtain rfl : n = 4999 := by omega
          clear HK2
          gi_wp2_with fail
          obtain ⟨m1, m2, m3, m4⟩ := rows_world (v := .int .i64 5000) (a := .int .i64 px) (b := .int .i64 py) (c := .int .i64 pz) H1.out H2.out (by omega)
          have mk := m4 [w.heap.size + 1, w1.heap.size + 1, w1.heap.size + 1 + 1] W0 HMo.out (by simp) (by simp)
          have mr : Boxed _ (w.heap.size + 1) 4 (.bool false) := Bk.far (Bk.far (Bk.far (Bk.far HRb.out (p := ⟨w1.heap.size + 1 + 1, 0, none⟩) (by simp; omega) (.int .i64 px)) (p := ⟨w1.heap.size + 1 + 1, 1, none⟩) (by simp; omega) (.int .i64 py)) (p := ⟨w1.heap.size + 1 + 1, 2, none⟩) (by simp; omega) (.int .i64 pz)) (p := ⟨w1.heap.size + 1, 0, none⟩) (by simp; omega) (.int .i64 5000)
          exact ⟨(m3.trans (KeepsOthers.setCell _ _ _)).from _, ⟨rfl, true, Boxed.set (v := .bool false) _ mr, fun _ => rfl⟩, mk.setCell (p := ⟨w.heap.size + 1, 0, none⟩) (.inl (by simp)) _⟩
        · have h6 : (n + 1 == 5000) = false := by simpa using h5
          clear HK2
          gi_wp2_with fail
          obtain ⟨m1, m2, m3, m4⟩ := rows_world (v := .int .i64 (n + 1)) (a := .int .i64 px) (b := .int .i64 py) (c := .int .i64 pz) H1.out H2.out (by omega)
          have mk := m4 [w1.heap.size + 1, w1.heap.size + 1 + 1] W0 HK.out (by simp) (by simp)
          refine ⟨m3.from _, ?_, ⟨_, _, _, _, m1, m2, HSTEP.out (by omega)⟩, mk⟩
          exact (mk.block _ (by omega) (by simp; omega)).trans (HK.out.block _ (by omega) (by simp; omega)).symm
      · by_cases h5 : n + 1 = 5000
        · obtain rfl : n = 4999 := by omega
          have e3 : (decide (py < py)) = false := by simp
          clear HK2
          gi_wp2_with fail
          obtain ⟨m1, m2, m3, m4⟩ := rows_world (v := .int .i64 5000) (a := .int .i64 px) (b := .int .i64 py) (c := .int .i64 pz) H1.out H2.out (by omega)
          have mk := m4 [w.heap.size + 1, w1.heap.size + 1, w1.heap.size + 1 + 1] W0 HMo.out (by simp) (by simp)
          have mr : Boxed _ (w.heap.size + 1) 4 (.bool false) := Bk.far (Bk.far (Bk.far (Bk.far HRb.out (p := ⟨w1.heap.size + 1 + 1, 0, none⟩) (by simp; omega) (.int .i64 px)) (p := ⟨w1.heap.size + 1 + 1, 1, none⟩) (by simp; omega) (.int .i64 py)) (p := ⟨w1.heap.size + 1 + 1, 2, none⟩) (by simp; omega) (.int .i64 pz)) (p := ⟨w1.heap.size + 1, 0, none⟩) (by simp; omega) (.int .i64 5000)
          exact ⟨(m3.trans (KeepsOthers.setCell _ _ _)).from _, ⟨rfl, true, Boxed.set (v := .bool false) _ mr, fun _ => rfl⟩, mk.setCell (p := ⟨w.heap.size + 1, 0, none⟩) (.inl (by simp)) _⟩
        · have h6 : (n + 1 == 5000) = false := by simpa using h5
          have e3 : (decide (py < py)) = false := by simp
          clear HK2
          gi_wp2_with fail
          obtain ⟨m1, m2, m3, m4⟩ := rows_world (v := .int .i64 (n + 1)) (a := .int .i64 px) (b := .int .i64 py) (c := .int .i64 pz) H1.out H2.out (by omega)
          have mk := m4 [w1.heap.size + 1, w1.heap.size + 1 + 1] W0 HK.out (by simp) (by simp)
          refine ⟨m3.from _, ?_, ⟨_, _, _, _, m1, m2, HSTEP.out (by omega)⟩, mk⟩
          exact (mk.block _ (by omega) (by simp; omega)).trans (HK.out.block _ (by omega) (by simp; omega)).symm
      · by_cases h5 : n + 1 = 5000
        · obtain rfl : n = 4999 := by omega
          have e3 : (decide (py < py)) = false := by simp
          have e4 : (decide (pz < pz)) = false := by simp
          clear HK2
          gi_wp2_with fail
          obtain ⟨m1, m2, m3, m4⟩ := rows_world (v := .int .i64 5000) (a := .int .i64 px) (b := .int .i64 py) (c := .int .i64 pz) H1.out H2.out (by omega)
          have mk := m4 [w.heap.size + 1, w1.heap.size + 1, w1.heap.size + 1 + 1] W0 HMo.out (by simp) (by simp)
          have mr : Boxed _ (w.heap.size + 1) 4 (.bool false) := Bk.far (Bk.far (Bk.far (Bk.far HRb.out (p := ⟨w1.heap.size + 1 + 1, 0, none⟩) (by simp; omega) (.int .i64 px)) (p := ⟨w1.heap.size + 1 + 1, 1, none⟩) (by simp; omega) (.int .i64 py)) (p := ⟨w1.heap.size + 1 + 1, 2, none⟩) (by simp; omega) (.int .i64 pz)) (p := ⟨w1.heap.size + 1, 0, none⟩) (by simp; omega) (.int .i64 5000)
          exact ⟨(m3.trans (KeepsOthers.setCell _ _ _)).from _, ⟨rfl, true, Boxed.set (v := .bool false) _ mr, fun _ => rfl⟩, mk.setCell (p := ⟨w.heap.size + 1, 0, none⟩) (.inl (by simp)) _⟩
        · have h6 : (n + 1 == 5000) = false := by simpa using h5
          have e3 : (decide (py < py)) = false := by simp
          have e4 : (decide (pz < pz)) = false := by simp
          clear HK2
          gi_wp2_with fail
          obtain ⟨m1, m2, m3, m4⟩ := rows_world (v := .int .i64 (n + 1)) (a := .int .i64 px) (b := .int .i64 py) (c := .int .i64 pz) H1.out H2.out (by omega)
          have mk := m4 [w1.heap.size + 1, w1.heap.size + 1 + 1] W0 HK.out (by simp) (by simp)
          refine ⟨m3.from _, ?_, ⟨_, _, _, _, m1, m2, HSTEP.out (by omega)⟩, mk⟩
          exact (mk.block _ (by omega) (by simp; omega)).trans (HK.out.block _ (by omega) (by simp; omega)).symm
      · have HF : Hid (¬ inOrd (pre ++ [x])) := fun ho => by have := HORD.out ho; omega
        have e2 : py ≠ ly := by omega
        have e3 : (decide (ly < py)) = false := by simp; omega
        clear HK2
        gi_wp2_with fail
        exact ⟨(KeepsOthers.setCell _ _ _).from _, ⟨rfl, false, Boxed.set (v := .bool false) _ HRb.out, fun ho => absurd ho HF.out⟩, HMo.out.setCell (p := ⟨w.heap.size + 1, 0, none⟩) (.inl (by simp)) _⟩
      · have HF : Hid (¬ inOrd (pre ++ [x])) := fun ho => by have := HORD.out ho; omega
        have e3 : (decide (py < py)) = false := by simp
        have e2 : pz ≠ lz := by omega
        have e4 : (decide (lz < pz)) = false := by simp; omega
        clear HK2
        gi_wp2_with fail
        exact ⟨(KeepsOthers.setCell _ _ _).from _, ⟨rfl, false, Boxed.set (v := .bool false) _ HRb.out, fun ho => absurd ho HF.out⟩, HMo.out.setCell (p := ⟨w.heap.size + 1, 0, none⟩) (.inl (by simp)) _⟩
      · have HF : Hid (¬ inOrd (pre ++ [x])) := fun ho => by have := HORD.out ho; omega
        have e3 : (decide (py < py)) = false := by simp
        have e4 : (decide (pz < pz)) = false := by simp
        have e5 : (decide (lx < px)) = false := by simp; omega
        clear HK2
        gi_wp2_with fail
        exact ⟨(KeepsOthers.setCell _ _ _).from _, ⟨rfl, false, Boxed.set (v := .bool false) _ HRb.out, fun ho => absurd ho HF.out⟩, HMo.out.setCell (p := ⟨w.heap.size + 1, 0, none⟩) (.inl (by simp)) _⟩
  case done =>
    rintro D ys W hD rfl ⟨⟨n, lx, ly, lz, h1, h2, ⟨hn0, hn1⟩, hz, hok⟩, hk⟩ hK
    obtain ⟨hn, hlast⟩ := hok inOrd_all
    rw [List.length_finRange] at hn hlast
    have hcnt : countS ax ay az bx by' bz = n := by rw [each_count (by omega), hn]
    have HL : Hid (n = 0 ∨ (0 < n ∧ lx = bx ∧ ly = by' ∧ lz = bz)) := by
      show _ ∨ _
      by_cases h0 : eachN ax ay az bx by' bz = 0
      · exact .inl (by omega)
      · have h3 := hlast (by omega)
        have h4 := each_last (ax := ax) (ay := ay) (az := az) (bx := bx) (by' := by') (bz := bz) (by omega)
        exact .inr ⟨by omega, h3.1.trans h4.1, h3.2.1.trans h4.2.1, h3.2.2.trans h4.2.2⟩
    rw [hcnt] at HCnt
    have l0 := h2.cell 0
    have l1 := h2.cell 1
    have l2 := h2.cell 2
    have n0 := h1.cell
    have hbW := hbx.kp hk (by simp; omega)
    have u0 := Boxed.cell (Bk.kp (g := w1.heap.size) hbu hk (by simp; omega))
    have hRb : Boxed W (w.heap.size + 1) 4 (.bool false) := Bk.kp (g := w.heap.size + 1) hbr hk (by simp; omega)
    have HH : Hid (Has W [(⟨w1.heap.size, 0, none⟩, .bool true), (⟨w1.heap.size + 1, 0, none⟩, .int .i64 n), (⟨w1.heap.size + 1 + 1, 0, none⟩, .int .i64 lx), (⟨w1.heap.size + 1 + 1, 1, none⟩, .int .i64 ly), (⟨w1.heap.size + 1 + 1, 2, none⟩, .int .i64 lz), (⟨w.heap.size, 0, none⟩, .int .i64 ax), (⟨w.heap.size, 1, none⟩, .int .i64 ay), (⟨w.heap.size, 2, none⟩, .int .i64 az), (⟨w.heap.size, 3, none⟩, .int .i64 bx), (⟨w.heap.size, 4, none⟩, .int .i64 by'), (⟨w.heap.size, 5, none⟩, .int .i64 bz)]) :=
      ⟨u0, n0, l0, l1, l2, hbW.cell 0, hbW.cell 1, hbW.cell 2, hbW.cell 3, hbW.cell 4, hbW.cell 5⟩
    have HKw : Hid (Kp [] w W) := hk0.trans hk (fun x hx hlt => by simp at hx; omega)
    have HRb := Lib.hid hRb
    have HD := Lib.hid hD
    have HKd := Lib.hid hK
    have HS0 : Hid (W0.heap.size = w1.heap.size + 4) := hsz
    clear l0 l1 l2 n0 u0 hbW hRb hk h1 h2 hcnt hn hlast hz hn0 hn1 hD hK hsz hk0
    gi_wp2_with fail
    refine wpIn_wide.2 ?_
    rcases HL.out with rfl | ⟨hp, rfl, rfl, rfl⟩
    all_goals clear HL hok
    · refine wp_region_noPanic ?_
      refine wp_region_held_drew (S := (fun w' => w'.cell? ⟨w1.heap.size, 0, none⟩ = some (.bool true) ∧ w'.cell? ⟨w1.heap.size + 1, 0, none⟩ = some (.int .i64 0) ∧ w'.cell? ⟨w1.heap.size + 1 + 1, 0, none⟩ = some (.int .i64 lx) ∧ w'.cell? ⟨w1.heap.size + 1 + 1, 1, none⟩ = some (.int .i64 ly) ∧ w'.cell? ⟨w1.heap.size + 1 + 1, 2, none⟩ = some (.int .i64 lz) ∧ w'.cell? ⟨w.heap.size, 0, none⟩ = some (.int .i64 ax) ∧ w'.cell? ⟨w.heap.size, 1, none⟩ = some (.int .i64 ay) ∧ w'.cell? ⟨w.heap.size, 2, none⟩ = some (.int .i64 az) ∧ w'.cell? ⟨w.heap.size, 3, none⟩ = some (.int .i64 bx) ∧ w'.cell? ⟨w.heap.size, 4, none⟩ = some (.int .i64 by') ∧ w'.cell? ⟨w.heap.size, 5, none⟩ = some (.int .i64 bz))) (by kernel_rfl) HH.out.drew (fun hHeld => ?_)
      refine wpAnyH_take (i := 0) (oi := _) (v := ?_) rfl (by kernel_rfl) (by kernel_rfl) (by kernel_rfl) (fun _ _ _ h => h) (Or.inl ⟨by kernel_rfl, ?_⟩) (by assumption) ?_
      rotate_left
      · intro w' hSw
        (try dsimp only at hSw)
        go_simp
        first | done | rfl
      try simp only [Act.put, List.setIfInBounds_toArray, List.set_cons_zero, List.set_cons_succ]
      refine wpAnyH_take (i := 1) (oi := _) (v := ?_) rfl (by kernel_rfl) (by kernel_rfl) (by kernel_rfl) (fun _ _ _ h => h) (Or.inl ⟨by kernel_rfl, ?_⟩) (by assumption) ?_
      rotate_left
      · intro w' hSw
        (try dsimp only at hSw)
        go_simp
        first | done | rfl
      try simp only [Act.put, List.setIfInBounds_toArray, List.set_cons_zero, List.set_cons_succ]
      refine wpAnyH_take (i := 2) (oi := _) (v := ?_) rfl (by kernel_rfl) (by kernel_rfl) (by kernel_rfl) (fun _ _ _ h => h) (Or.inl ⟨by kernel_rfl, ?_⟩) (by assumption) ?_
      rotate_left
      · intro w' hSw
        (try dsimp only at hSw)
        go_simp
        first | done | rfl
      try simp only [Act.put, List.setIfInBounds_toArray, List.set_cons_zero, List.set_cons_succ]
      refine wpAnyH_take (i := 3) (oi := _) (v := ?_) rfl (by kernel_rfl) (by kernel_rfl) (by kernel_rfl) (fun _ _ _ h => h) (Or.inl ⟨by kernel_rfl, ?_⟩) (by assumption) ?_
      rotate_left
      · intro w' hSw
        (try dsimp only at hSw)
        go_simp
        first | done | rfl
      try simp only [Act.put, List.setIfInBounds_toArray, List.set_cons_zero, List.set_cons_succ]
      refine wpAnyH_ready (rs := [4]) (by kernel_rfl) (by simp) ?_
      refine AllReadyH.cons (o := _) rfl (fun K hK => ?_) AllReadyH.nil
      go_simp
      go_at_call 24; refine (HCnt.out _).mono ?_; rintro e w2 ⟨rfl, k2⟩; have HH2 := Lib.hid (HH.out.drew.kp k2); have HK2 : Hid (Kp [] w w2) := HKw.out.drew.then k2; have HR2 : Hid (Boxed w2 (w.heap.size + 1) 4 (.bool false)) := Bk.kp (g := w.heap.size + 1) (w := W.drew) HRb.out k2 (by simp); have hr2c := Boxed.cell HR2.out; have hr2f := Boxed.frozen HR2.out; have HS2 := Lib.hid (HH2.out.setFar (p := ⟨w.heap.size + 1, 0, none⟩) (.bool true) (by simp; omega)); have HKd2 : Hid (w2.heap[D]? = some (Obj.deferred (some []))) := (k2.block D (Array.getElem?_eq_some_iff.1 HKd.out).1 (by simp)).trans HKd.out; clear k2
      refine hK.out _ _ HH2.out (fun hHeld2 => ?_)
      clear hK K hHeld
      try simp only [Act.put, List.setIfInBounds_toArray, List.set_cons_zero, List.set_cons_succ]
      refine wpAnyH_take (i := 5) (oi := _) (v := ?_) rfl (by kernel_rfl) (by kernel_rfl) (by kernel_rfl) (fun _ _ _ h => h) (Or.inl ⟨by kernel_rfl, ?_⟩) (by assumption) ?_
      rotate_left
      · intro w' hSw
        (try dsimp only at hSw)
        go_simp
        first | done | rfl
      try simp only [Act.put, List.setIfInBounds_toArray, List.set_cons_zero, List.set_cons_succ]
      refine wpAnyH_take (i := 6) (oi := _) (v := ?_) rfl (by kernel_rfl) (by kernel_rfl) (by kernel_rfl) (fun _ _ _ h => h) (Or.inl ⟨by kernel_rfl, ?_⟩) (by assumption) ?_
      rotate_left
      · intro w' hSw
        (try dsimp only at hSw)
        go_simp
        first | done | rfl
      try simp only [Act.put, List.setIfInBounds_toArray, List.set_cons_zero, List.set_cons_succ]
      refine wpAnyH_take (i := 7) (oi := _) (v := ?_) rfl (by kernel_rfl) (by kernel_rfl) (by kernel_rfl) (fun _ _ _ h => h) (Or.inl ⟨by kernel_rfl, ?_⟩) (by assumption) ?_
      rotate_left
      · intro w' hSw
        (try dsimp only at hSw)
        go_simp
        first | done | rfl
      try simp only [Act.put, List.setIfInBounds_toArray, List.set_cons_zero, List.set_cons_succ]
      refine wpAnyH_take (i := 8) (oi := _) (v := ?_) rfl (by kernel_rfl) (by kernel_rfl) (by kernel_rfl) (fun _ _ _ h => h) (Or.inl ⟨by kernel_rfl, ?_⟩) (by assumption) ?_
      rotate_left
      · intro w' hSw
        (try dsimp only at hSw)
        go_simp
        first | done | rfl
      try simp only [Act.put, List.setIfInBounds_toArray, List.set_cons_zero, List.set_cons_succ]
      refine wpAnyH_take (i := 9) (oi := _) (v := ?_) rfl (by kernel_rfl) (by kernel_rfl) (by kernel_rfl) (fun _ _ _ h => h) (Or.inl ⟨by kernel_rfl, ?_⟩) (by assumption) ?_
      rotate_left
      · intro w' hSw
        (try dsimp only at hSw)
        go_simp
        first | done | rfl
      try simp only [Act.put, List.setIfInBounds_toArray, List.set_cons_zero, List.set_cons_succ]
      refine wpAnyH_take (i := 10) (oi := _) (v := ?_) rfl (by kernel_rfl) (by kernel_rfl) (by kernel_rfl) (fun _ _ _ h => h) (Or.inl ⟨by kernel_rfl, ?_⟩) (by assumption) ?_
      rotate_left
      · intro w' hSw
        (try dsimp only at hSw)
        go_simp
        first | done | rfl
      try simp only [Act.put, List.setIfInBounds_toArray, List.set_cons_zero, List.set_cons_succ]
      refine wpAnyH_take (i := 11) (oi := _) (v := undef) rfl (by kernel_rfl) (by kernel_rfl) (by kernel_rfl) (fun _ _ _ h => h) (Or.inr ⟨by kernel_rfl, rfl⟩) (by assumption) ?_
      try simp only [Act.put, List.setIfInBounds_toArray, List.set_cons_zero, List.set_cons_succ]
      refine wpAnyH_take (i := 12) (oi := _) (v := undef) rfl (by kernel_rfl) (by kernel_rfl) (by kernel_rfl) (fun _ _ _ h => h) (Or.inr ⟨by kernel_rfl, rfl⟩) (by assumption) ?_
      try simp only [Act.put, List.setIfInBounds_toArray, List.set_cons_zero, List.set_cons_succ]
      refine wpAnyH_take (i := 13) (oi := _) (v := undef) rfl (by kernel_rfl) (by kernel_rfl) (by kernel_rfl) (fun _ _ _ h => h) (Or.inr ⟨by kernel_rfl, rfl⟩) (by assumption) ?_
      try simp only [Act.put, List.setIfInBounds_toArray, List.set_cons_zero, List.set_cons_succ]
      refine wpAnyH_take (i := 14) (oi := _) (v := undef) rfl (by kernel_rfl) (by kernel_rfl) (by kernel_rfl) (fun _ _ _ h => h) (Or.inr ⟨by kernel_rfl, rfl⟩) (by assumption) ?_
      try simp only [Act.put, List.setIfInBounds_toArray, List.set_cons_zero, List.set_cons_succ]
      refine wpAnyH_take (i := 15) (oi := _) (v := ?_) rfl (by kernel_rfl) (by kernel_rfl) (by kernel_rfl) (fun _ _ _ h => h) (Or.inl ⟨by kernel_rfl, ?_⟩) (by assumption) ?_
      rotate_left
      · intro w' hSw
        (try dsimp only at hSw)
        go_simp
        first | done | rfl
      try simp only [Act.put, List.setIfInBounds_toArray, List.set_cons_zero, List.set_cons_succ]
      refine wpAnyH_take (i := 16) (oi := _) (v := ?_) rfl (by kernel_rfl) (by kernel_rfl) (by kernel_rfl) (fun _ _ _ h => h) (Or.inl ⟨by kernel_rfl, ?_⟩) (by assumption) ?_
      rotate_left
      · intro w' hSw
        (try dsimp only at hSw)
        go_simp
        first | done | rfl
      try simp only [Act.put, List.setIfInBounds_toArray, List.set_cons_zero, List.set_cons_succ]
      refine wpAnyH_ready (rs := [17]) (by kernel_rfl) (by simp) ?_
      refine AllReadyH.cons (o := _) rfl (fun K hK => ?_) AllReadyH.nil
      go_simp
      refine hK.out _ _ HS2.out (fun hHeld3 => ?_)
      clear hK K
      refine wpAnyH_done (by kernel_rfl) ?_ _
      refine NoPanic.normal ?_
      gi_wp2_with fail
      have hK' := (KeepsOthers.setCell w2 ⟨w.heap.size + 1, 0, none⟩ (.bool true)).same D _ HKd2.out rfl
      refine ⟨by simp, .inl ⟨_, _, rfl, run_takeDeferred hK', ?_⟩⟩
      have hb2 : Boxed (w2.setCell ⟨w.heap.size + 1, 0, none⟩ (.bool true)) (w.heap.size + 1) 4 (.bool true) := Boxed.set (v := .bool false) _ HR2.out
      have hc5 := cell_kept hb2.cell (grownBy_putObj' _ D (.deferred none)) (fun r e => by cases e; exact ⟨_, hK', rfl⟩)
      refine ⟨.bool true, ?_, rfl, ?_⟩
      · simp [results, Try.f7, go_sem, hc5]
      · have hkk := HK2.out.setCell (p := ⟨w.heap.size + 1, 0, none⟩) (.inr (by simp)) (.bool true)
        exact hkk.grown (grownBy_putObj' _ D _) (fun k e hlt => by cases e; have := HD.out; have := HS0.out; omega)
    · have e0 : (n == 0) = false := by simp; omega
      go_region_held3 (fun w' => w'.cell? ⟨w1.heap.size, 0, none⟩ = some (.bool true) ∧ w'.cell? ⟨w1.heap.size + 1, 0, none⟩ = some (.int .i64 n) ∧ w'.cell? ⟨w1.heap.size + 1 + 1, 0, none⟩ = some (.int .i64 lx) ∧ w'.cell? ⟨w1.heap.size + 1 + 1, 1, none⟩ = some (.int .i64 ly) ∧ w'.cell? ⟨w1.heap.size + 1 + 1, 2, none⟩ = some (.int .i64 lz) ∧ w'.cell? ⟨w.heap.size, 0, none⟩ = some (.int .i64 ax) ∧ w'.cell? ⟨w.heap.size, 1, none⟩ = some (.int .i64 ay) ∧ w'.cell? ⟨w.heap.size, 2, none⟩ = some (.int .i64 az) ∧ w'.cell? ⟨w.heap.size, 3, none⟩ = some (.int .i64 lx) ∧ w'.cell? ⟨w.heap.size, 4, none⟩ = some (.int .i64 ly) ∧ w'.cell? ⟨w.heap.size, 5, none⟩ = some (.int .i64 lz))
        (first | exact HS2.out | exact HH2.out | exact HH.out.drew)
        (first | (go_at_call 24; refine (HCnt.out _).mono ?_; rintro e w2 ⟨rfl, k2⟩; have HH2 := Lib.hid (HH.out.drew.kp k2); have HK2 : Hid (Kp [] w w2) := HKw.out.drew.then k2; have HR2 : Hid (Boxed w2 (w.heap.size + 1) 4 (.bool false)) := Bk.kp (g := w.heap.size + 1) (w := W.drew) HRb.out k2 (by simp); have hr2c := Boxed.cell HR2.out; have hr2f := Boxed.frozen HR2.out; have HS2 := Lib.hid (HH2.out.setFar (p := ⟨w.heap.size + 1, 0, none⟩) (.bool true) (by simp; omega)); have HKd2 : Hid (w2.heap[D]? = some (Obj.deferred (some []))) := (k2.block D (Array.getElem?_eq_some_iff.1 HKd.out).1 (by simp)).trans HKd.out; clear k2))
      gi_wp2_with fail
      have hK' := (KeepsOthers.setCell w2 ⟨w.heap.size + 1, 0, none⟩ (.bool true)).same D _ HKd2.out rfl
      refine ⟨by simp, .inl ⟨_, _, rfl, run_takeDeferred hK', ?_⟩⟩
      have hb2 : Boxed (w2.setCell ⟨w.heap.size + 1, 0, none⟩ (.bool true)) (w.heap.size + 1) 4 (.bool true) := Boxed.set (v := .bool false) _ HR2.out
      have hc5 := cell_kept hb2.cell (grownBy_putObj' _ D (.deferred none)) (fun r e => by cases e; exact ⟨_, hK', rfl⟩)
      refine ⟨.bool true, ?_, rfl, ?_⟩
      · simp [results, Try.f7, go_sem, hc5]
      · have hkk := HK2.out.setCell (p := ⟨w.heap.size + 1, 0, none⟩) (.inr (by simp)) (.bool true)
        exact hkk.grown (grownBy_putObj' _ D _) (fun k e hlt => by cases e; have := HD.out; have := HS0.out; omega)
  case stop =>
    rintro D c pre W hD ⟨k, _, rfl⟩ ⟨⟨rfl, b, hb, hb2⟩, hk⟩ hK
    obtain rfl : b = true := hb2 inOrd_take
    gi_wp2_with fail
    refine ⟨by simp, .inl ⟨_, _, rfl, run_takeDeferred hK, ?_⟩⟩
    have hc5 := cell_kept hb.cell (grownBy_putObj' _ D (.deferred none)) (fun r e => by cases e; exact ⟨_, hK, rfl⟩)
    have hkk : Kp [] w W := hk0.trans hk (fun x hx hlt => by simp at hx; omega)
    refine ⟨.bool true, ?_, rfl, hkk.grown (grownBy_putObj' _ D _) (fun k e hlt => by cases e; have := hk0.size; omega)⟩
    simp [results, Try.f7, go_sem, hc5]

theorem GridRows_walk (w : World) (ax ay az bx by' bz : Int) :
    Calls Try.prog 7 #[boxV ax ay az bx by' bz] w fun e w' => e = .returned (.bool true) ∧ Kp [] w w' :=
  (callsIn_wide (n := 6)).1 (GridRows_in ax ay az bx by' bz w)
end Go.Proofs.Ythjbapjmlkbeoaa
