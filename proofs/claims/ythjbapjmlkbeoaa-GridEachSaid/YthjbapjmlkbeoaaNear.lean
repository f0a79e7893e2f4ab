/- The walk of grid.Near. -/
import Derived.Maps.AppendAt
import Derived.RangeFuncBox
import Derived.Deep.Onto
import Derived.Test.YthjbapjmlkbeoaaEach
namespace Go.Proofs.Ythjbapjmlkbeoaa
open Go.RowKit Go.Shelf
set_option linter.unusedVariables false
set_option linter.unusedSimpArgs false

attribute [local go_sem] Oper.semAt_some

/-- Pairs as cells. -/
def ats (l : List (Int × Int)) : List Value := l.flatMap fun p => [.int .i64 p.1, .int .i64 p.2]
theorem ats_length (l : List (Int × Int)) : (ats l).length = l.length * 2 := by
  induction l with
  | nil => rfl
  | cons p r ih => rw [ats, List.flatMap_cons, List.length_append]; show 2 + (ats r).length = (r.length + 1) * 2; omega
theorem ats_snoc (l : List (Int × Int)) (p : Int × Int) : ats (l ++ [p]) = ats l ++ [.int .i64 p.1, .int .i64 p.2] := by simp [ats]

/-! ### A row that grows beside boxes -/
theorem bk_own {β : Type} (B : Nat) (t : TypeId) (f : β → Array Value) : Own (fun s W => Bk W B t (f s)) := fun s X Y row hs hg hrow => by
  refine (hg.block B hs.lt (fun e => ?_)).trans hs
  obtain ⟨o, ho, hc⟩ := hrow B e.symm
  unfold Bk at hs
  rw [hs] at ho
  cases ho
  cases hc
theorem kp_own {β : Type} {S : List Nat} {B : Nat} {w0 : World} (hB : w0.heap.size ≤ B) : OwnFrom B (fun (_ : β) W => Kp S w0 W) := fun s X Y row hs hg hrow =>
  hs.grown hg (fun k e hlt => by
    have := (hrow k e).1
    omega)

/-- 'out = append(out, ..)', out in a box below the row's base. -/
theorem row_appended {W w1 : World} {B t e base size k m : Nat} {v v' : Value} {xs ys : List Value} {tmp : Obj} (hv : Boxed W B t v) (hB : B < base) (hbase : base ≤ W.heap.size)
    (hrow : W.ownsRow base e size v k xs) (hown' : w1.ownsRow base e size v' m ys) (hgrow : (W.alloc tmp).grownBy w1 v.ownBlock) :
    Boxed w1 B t v ∧ Boxed (w1.setCell ⟨B, 0, none⟩ v') B t v' ∧ (w1.setCell ⟨B, 0, none⟩ v').ownsRow base e size v' m ys ∧ KeepsOthers W (w1.setCell ⟨B, 0, none⟩ v') ∧
      (∀ (S : List Nat) (w0 : World), Kp S w0 W → w0.heap.size ≤ base → B ∈ S → Kp S w0 (w1.setCell ⟨B, 0, none⟩ v')) := by
  have hne : some B ≠ v.ownBlock := by
    intro e'
    have := (hrow.lt B e'.symm).1
    omega
  have hv1 : Boxed w1 B t v := (hv.alloc tmp).kept hgrow hne
  have hne' : some B ≠ v'.ownBlock := by
    intro e'
    have := (hown'.lt B e'.symm).1
    omega
  refine ⟨hv1, hv1.set v', hown'.kept (grownBy_setCell' w1 B v') (.inr hne'.symm), ?_, ?_⟩
  · refine ((KeepsOthers.alloc W tmp).trans (KeepsOthers.of_grownBy hgrow fun j o ej hj => ?_)).trans (KeepsOthers.setCell _ _ _)
    rcases (hrow.alloc tmp).2 with ⟨rfl, _⟩ | ⟨g, cap, cur, rfl, _, hgb, _⟩
    · simp [Value.ownBlock] at ej
    · obtain rfl : g = j := by simpa [Value.ownBlock] using ej
      rw [hgb] at hj
      cases hj
      rfl
  · intro S w0 hk hs hm
    exact ((hk.alloc tmp).own (hrow.alloc tmp) hs hgrow).setCell (p := ⟨B, 0, none⟩) (.inl hm) v'

def nearP (cx cz r : Int) (j : Nat) : Int × Int := (wrap64 (cx + eachX (-r) r j), wrap64 (cz + eachZ (-r) r (-r) r j))
def nearL (cx cz r : Int) : List (Int × Int) := if wthn r 0 8 = true then (List.range (eachN (-r) 0 (-r) r 0 r)).map (nearP cx cz r) else []

theorem at_info : (Try.prog.info? 27).map (fun i => (i.zero, i.size, i.bytes)) = some (some (.agg #[.int .i64 0, .int .i64 0]), 2, 16) := by kernel_rfl

theorem cell_two_new (w : World) (x y : Value) (t : TypeId) : ∀ j u, [x, y][j]? = some u → (w.alloc (.cells #[x, y] t)).cell? ((⟨w.heap.size, 0, none⟩ : Addr).add j) = some u := by
  intro j u h
  rw [add_plain, Nat.zero_add, (Bk.new w t #[x, y]).cell]
  simpa using h

theorem near_bd (r : Int) (j : Nat) (h0 : 0 ≤ r) : -r ≤ eachX (-r) r j ∧ eachX (-r) r j ≤ r := by
  unfold eachX
  have h : j % lenS (-r) r < lenS (-r) r := Nat.mod_lt _ (by unfold lenS; omega)
  unfold lenS at *
  omega

set_option maxRecDepth 100000 in
set_option maxHeartbeats 4000000 in
theorem near_in (n : Nat) (hn : 6 ≤ n) (cx cz r : Int) (w : World) (h0 : 0 ≤ r) (h8 : r ≤ 8) :
    CallsIn Fence.wide n Try.prog 22 #[.agg #[.int .i64 cx, .int .i64 cz], .int .i64 r] w fun e W' => ∃ v, e = .returned v ∧ W'.ownsRow w.heap.size 27 2 v (nearL cx cz r).length (ats (nearL cx cz r)) ∧ Below w.heap.size w W' := by
  have h1 : 1 ≤ n := by omega
  have HT : Hid (wthn r 0 8 = true) := wthn_true.2 ⟨h0, h8⟩
  have HM := Lib.hid (fun n w => each_made n (-r) 0 (-r) r 0 r w)
  unfold boxV at HM
  refine callsIn_of_wp_marks Try.func22 rfl trivial ?_ rfl
  simp only [Try.ntmps22, List.size_toArray, List.length_cons, List.length_nil, Nat.reduceAdd, Nat.reduceSub, Array.replicate_succ, Array.replicate_zero, List.push_toArray, List.append_toArray, List.nil_append, List.cons_append]
  gi_wp2_with (first | (refine ⟨trivial, ?_⟩; gi_at_call 28; refine (callsIn_wide.2 (grid_within _ _ _ _)).mono ?_; rintro e w' ⟨rfl, rfl⟩; rw [HT.out]) | (refine ⟨trivial, ?_⟩; gi_at_call 21; refine (HM.out _ _).mono ?_; rintro e w' ⟨rfl, rfl⟩))
  have bL := (Boxed.new (w.alloc (.cells #[.int .i64 cx, .int .i64 cz] 27)) 40 (.slice none 0 0)).alloc (.cells #[.int .i64 (-r), .int .i64 0, .int .i64 (-r), .int .i64 r, .int .i64 0, .int .i64 r] 33)
  have bC := ((Bk.new w 27 #[.int .i64 cx, .int .i64 cz]).alloc (.cells #[.slice none 0 0] 40)).alloc (.cells #[.int .i64 (-r), .int .i64 0, .int .i64 (-r), .int .i64 r, .int .i64 0, .int .i64 r] 33)
  have bB := Bk.new ((w.alloc (.cells #[.int .i64 cx, .int .i64 cz] 27)).alloc (.cells #[.slice none 0 0] 40)) 33 #[.int .i64 (-r), .int .i64 0, .int .i64 (-r), .int .i64 r, .int .i64 0, .int .i64 r]
  have hk0 : Kp [] w (((w.alloc (.cells #[.int .i64 cx, .int .i64 cz] 27)).alloc (.cells #[.slice none 0 0] 40)).alloc (.cells #[.int .i64 (-r), .int .i64 0, .int .i64 (-r), .int .i64 r, .int .i64 0, .int .i64 r] 33)) := (((Kp.refl [] w).alloc _).alloc _).alloc _
  have hsz : (((w.alloc (.cells #[.int .i64 cx, .int .i64 cz] 27)).alloc (.cells #[.slice none 0 0] 40)).alloc (.cells #[.int .i64 (-r), .int .i64 0, .int .i64 (-r), .int .i64 r, .int .i64 0, .int .i64 r] 33)).heap.size = w.heap.size + 3 := by simp
  simp only [World.size_alloc] at bL bB
  obtain ⟨W0, hW0⟩ : ∃ W0, ((w.alloc (.cells #[.int .i64 cx, .int .i64 cz] 27)).alloc (.cells #[.slice none 0 0] 40)).alloc (.cells #[.int .i64 (-r), .int .i64 0, .int .i64 (-r), .int .i64 r, .int .i64 0, .int .i64 r] 33) = W0 := ⟨_, rfl⟩
  rw [hW0] at bL bC bB hk0 hsz ⊢
  clear hW0 HM
  obtain ⟨i0, hi, hz0, hz1, hz2⟩ := info_parts at_info
  have hN : eachN (-r) 0 (-r) r 0 r ≤ 289 := by
    unfold eachN
    split
    · omega
    · have h1 : lenS 0 0 = 1 := rfl
      have h2 : lenS (-r) r ≤ 17 := by unfold lenS; omega
      rw [h1, Nat.one_mul]
      exact Nat.mul_le_mul h2 h2
  refine wpIn_rangeFunc_ownH rfl h1 (gf := 33) (lb := #[.pointer (some ⟨w.heap.size + 1 + 1, 0, none⟩)]) rfl trivial (enters_of Try.func33 (by kernel_rfl) rfl)
    (each_stops (n - 1) (by omega) (w.heap.size + 1 + 1) (-r) 0 (-r) r 0 r W0 (by omega) bB) (fun h k => SameBlk.trans h k) (SameBlk.put (by omega)) (Below.refl _ _) (fun _ => rfl)
    (fun (pre : List Nat) W => (∃ v, Boxed W (w.heap.size + 1) 40 v ∧ W.ownsRow (w.heap.size + 3) 27 2 v pre.length (ats (pre.map (nearP cx cz r))) ∧ True) ∧ Kp [w.heap.size + 1] W0 W)
    (fun _ _ _ => False)
    (OwnFrom.and (Own.from (holdsRow_own (w.heap.size + 3) (w.heap.size + 1) 40 27 2 (fun (pre : List Nat) => pre.length) (fun (pre : List Nat) => ats (pre.map (nearP cx cz r))) (fun _ _ => True)) _) (kp_own (Nat.le_refl _)))
    (fun _ _ _ _ _ hs _ _ => hs)
    ⟨⟨_, bL, World.ownsRow_nil _ _ _ _, trivial⟩, Kp.refl _ _⟩
    (fun x a' W => ∃ Bx, Bk W Bx 23 #[.int .i64 (eachX (-r) r x), .int .i64 (eachY (-r) r (-r) r 0 x), .int .i64 (eachZ (-r) r (-r) r x)] ∧ a' = { tmps := #[.agg #[.int .i64 cx, .int .i64 cz], .int .i64 r, .pointer (some ⟨w.heap.size, 0, none⟩), undef, .slice none 0 0, .pointer (some ⟨w.heap.size + 1, 0, none⟩), .pointer (some ⟨Bx, 0, none⟩), .int .i64 r, .bool true, .bool false, .int .i64 r, .int .i64 (-r), .int .i64 r, .int .i64 (-r), .agg #[.int .i64 (-r), .int .i64 0, .int .i64 (-r)], .int .i64 r, .int .i64 r, .agg #[.int .i64 r, .int .i64 0, .int .i64 r], .agg #[.int .i64 (-r), .int .i64 0, .int .i64 (-r), .int .i64 r, .int .i64 0, .int .i64 r], .func (.func 33) #[] #[.pointer (some ⟨w.heap.size + 1 + 1, 0, none⟩)], posV (eachX (-r) r x) (eachY (-r) r (-r) r 0 x) (eachZ (-r) r (-r) r x), undef, undef, undef, undef, undef, undef, undef, undef, undef, undef, undef, undef, undef, undef, undef], defers := [] })
    (fun x a' _ X Y row hs hg hr => by
      obtain ⟨Bx, h2, h3⟩ := hs
      exact ⟨Bx, bk_own Bx 23 (fun (_ : Unit) => #[.int .i64 (eachX (-r) r x), .int .i64 (eachY (-r) r (-r) r 0 x), .int .i64 (eachZ (-r) r (-r) r x)]) () X Y row h2 hg (fun r e => (hr r e).2), h3⟩)
    ?assign ?body ?done ?stop
  case assign =>
    rintro l pre x W K ⟨⟨v, hv, hrow, _⟩, hk⟩ hK
    unfold posV
    gi_wp2
    refine hK _ _ ((KeepsOthers.alloc _ _).from _) ?_ ⟨⟨v, hv.alloc _, hrow.alloc _, trivial⟩, hk.alloc _⟩ ⟨W.heap.size, Bk.new W _ _, rfl⟩
    exact Below.heap_alloc _ _ _ (by have := hk.size; omega)
  case body =>
    rintro l pre x a' W hl ⟨rl, hr⟩ ⟨⟨v, hv, hrow, _⟩, hk⟩ ⟨Bx, hX, rfl⟩ hlt
    have hc := hv.cell
    have c0 := (bC.kp hk (by simp)).cell 0
    have c1 := (bC.kp hk (by simp)).cell 1
    have x0 := hX.cell 0
    have x2 := hX.cell 2
    simp at c0 c1 x0 x2
    have HK := Lib.hid hk
    have HX := Lib.hid hX
    have hbs := hk.size
    have hvb := hv.lt
    clear hk hX
    have hp : nearP cx cz r x = (wrap64 (cx + eachX (-r) r x), wrap64 (cz + eachZ (-r) r (-r) r x)) := rfl
    have HP := Lib.hid hp
    clear hp
    generalize eachX (-r) r x = px at *
    generalize eachZ (-r) r (-r) r x = pz at *
    generalize eachY (-r) r (-r) r 0 x = py at *
    gi_wp2_with (gi_at_builtin; refine wpListIn_append_own _ rfl (.tmp 21) (.tmp 33) 40 rfl (w.heap.size + 3) 27 i0 (.agg #[.int .i64 0, .int .i64 0]) 2 16 Try.underlying40 hi hz0 hz1 hz2 rfl (by decide) v pre.length (ats (pre.map (nearP cx cz r))) rfl (hrow.alloc _) ⟨W.heap.size, 0, none⟩ 1 1 [.int .i64 (wrap64 (cx + px)), .int .i64 (wrap64 (cz + pz))] rfl rfl (cell_two_new _ _ _ _) (by simp [Value.oneCell']) (by unfold maxLen; omega) (by omega) (by simp; omega) ?_; intro v' w1 hown' hgrow _; obtain ⟨g', cap', rfl⟩ := ownsRow_succ hown'; obtain ⟨hv1, hv2, hr2, hk2, hkp⟩ := row_appended hv (by omega) (by omega) hrow hown' hgrow; have hc1 := hv1.cell; have hf1 := hv1.frozen)
    have hkk := hkp [w.heap.size + 1] W0 HK.out (by omega) (by simp)
    refine ⟨hk2.from _, ?_, ⟨_, hv2, ?_, trivial⟩, hkk⟩
    · exact (hkk.block _ (by omega) (by simp)).trans (HK.out.block _ (by omega) (by simp)).symm
    · rw [List.length_append, List.map_append, List.map_cons, List.map_nil, ats_snoc, HP.out]
      exact hr2
  case done =>
    rintro D ys W hD rfl ⟨⟨v, hv, hrow, _⟩, hk⟩ hK
    have hc := hv.cell
    gi_wp2
    refine ⟨by simp, .inl ⟨_, _, rfl, run_takeDeferred hK, ?_⟩⟩
    have hL : (nearL cx cz r) = (List.range (eachN (-r) 0 (-r) r 0 r)).map (nearP cx cz r) := by rw [nearL, HT.out, if_pos rfl]
    refine ⟨_, results_tmp rfl _ _ _, v, rfl, ?_, ?_⟩
    · rw [hL, List.length_map]
      exact (ownsRow_putObj hrow _ hK rfl).mono (by omega)
    · exact ((hk0.trans hk (fun x hx hlt => by simp at hx; omega)).below).trans (belowK_b (w := w) (Nat.le_refl _) W D _ _ (by omega) hK rfl rfl)
  case stop =>
    rintro D c pre W _ _ h _
    exact h.elim

set_option maxHeartbeats 1000000 in
theorem grid_Near (cx cz r : Int) (w : World) :
    Calls Try.prog 22 #[.agg #[.int .i64 cx, .int .i64 cz], .int .i64 r] w fun e W' => ∃ v, e = .returned v ∧ W'.ownsRow w.heap.size 27 2 v (nearL cx cz r).length (ats (nearL cx cz r)) ∧ Kp [] w W' := by
  cases hb : wthn r 0 8
  · have HL : Hid (nearL cx cz r = []) := by
      show _ = _
      rw [nearL, hb]
      rfl
    have HT := Lib.hid hb
    clear hb
    go_enter Try.func22, Try.ntmps22
    go_wp2_with (go_at_call 28; refine (grid_within _ _ _ _).mono ?_; rintro e w' ⟨rfl, rfl⟩; rw [HT.out])
    go_ret
    refine ⟨_, rfl, ?_, ((Kp.refl [] w).alloc _).alloc _⟩
    rw [HL.out]
    exact World.ownsRow_nil _ _ _ _
  · obtain ⟨h0, h8⟩ := wthn_true.1 hb
    exact ((callsIn_wide (n := 6)).1 (near_in 6 (by omega) cx cz r w h0 h8)).mono fun e W' ⟨v, h1, h2, h3⟩ => ⟨v, h1, h2, Kp.of_below h3⟩
end Go.Proofs.Ythjbapjmlkbeoaa
