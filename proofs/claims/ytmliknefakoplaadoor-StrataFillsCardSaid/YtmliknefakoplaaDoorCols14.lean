/- The walk of outcroplaw14.columns: 256 numbers, from a list over and over. -/
import Derived.Test.YtmliknefakoplaaDoorDiv
namespace Go.Proofs.YtmliknefakoplaaDoor
open Go.RowKit
set_option linter.unusedVariables false
set_option linter.unusedSimpArgs false

def colV (xs : List Int) (other : Int) (i : Nat) : Int := if xs = [] then other else xs.getD (i % xs.length) 0
def colL (xs : List Int) (other : Int) : List Int := (List.range 256).map (colV xs other)
theorem colL_length (xs : List Int) (other : Int) : (colL xs other).length = 256 := by rw [colL, List.length_map, List.length_range]
theorem colL_get (xs : List Int) (other : Int) {i : Nat} (hi : i < 256) : (colL xs other).getD i 0 = colV xs other i := by
  rw [colL, List.getD_eq_getElem?_getD, List.getElem?_map, List.getElem?_range hi]
  rfl
theorem colL_of {xs ys : List Int} {other : Int} (hl : ys.length = 256) (h : ∀ j, j < 256 → ys.getD j 0 = colV xs other j) : ys = colL xs other := by
  refine List.ext_getElem (by rw [hl, colL_length]) fun j h1 h2 => ?_
  have := h j (by omega)
  rw [List.getD_eq_getElem?_getD, List.getElem?_eq_getElem h1] at this
  rw [show ys[j] = colV xs other j from this]
  have h3 := colL_get xs other (i := j) (by omega)
  rw [List.getD_eq_getElem?_getD, List.getElem?_eq_getElem h2] at h3
  exact h3.symm

theorem make_cols (W : World) : (Instr.makeSlice 26 (.int .i64 256) (.int .i64 256)).run Tryd.prog W = .ok (.slice (some ⟨W.heap.size, 0, none⟩) 256 256) (W.alloc (.cells (madeCells #[.int .i64 0] 256) 3)) := by kernel_rfl

set_option maxRecDepth 20000 in
set_option maxHeartbeats 2000000 in
theorem law_columns (A : Option Addr) (n c B : Nat) (xs : List Int) (other : Int) (w : World) (hl : xs.length = n) (hr : Rd w B A (ints .i64 xs)) (hB : B ≤ w.heap.size) (hn : (n : Int) ≤ 140737488351232) :
    Calls Tryd.prog 10 #[.slice A n c, .int .i64 other] w fun e w' => ∃ g, e = .returned (.slice (some ⟨g, 0, none⟩) 256 256) ∧ w.heap.size ≤ g ∧ w'.ownsRow w.heap.size 3 1 (.slice (some ⟨g, 0, none⟩) 256 256) 256 (ints .i64 (colL xs other)) ∧ Kp [] w w' := by
  have hmk := make_cols
  have hown0 : (w.alloc (.cells (madeCells #[.int .i64 0] 256) 3)).ownsRow w.heap.size 3 1 (.slice (some ⟨w.heap.size, 0, none⟩) 256 256) 256 (ints .i64 (List.replicate 256 0)) := by
    have h := World.ownsRow_lit (base := w.heap.size) (size := 1) w (madeCells #[.int .i64 0] 256) 256 (Nat.le_refl _) (by simp [maxLen]) (by rw [size_madeCells]) (e := 3)
    rwa [toList_madeCells_one, show List.replicate 256 (Value.int .i64 0) = ints .i64 (List.replicate 256 0) by simp [ints]] at h
  have HO0 := Lib.hid hown0
  have HL := Lib.hid hl
  have HRd := Lib.hid (hr.more hB)
  have HK0 : Hid (Kp [] w (w.alloc (.cells (madeCells #[.int .i64 0] 256) 3))) := (Kp.refl [] w).alloc _
  clear hown0 hl hr hB
  generalize madeCells #[.int .i64 0] 256 = mc at *
  go_enter Tryd.func10, Tryd.ntmps10
  go_wp2_with fail
  clear hmk
  go_loopw [6] (fun i wr => ∃ (k : Nat) (ys : List Int), i = .int .i64 k ∧ (k : Int) ≤ 256 ∧ Hid (ys.length = 256) ∧ Hid (∀ j, j < k → ys.getD j 0 = colV xs other j) ∧ Hid (wr.ownsRow w.heap.size 3 1 (.slice (some ⟨w.heap.size, 0, none⟩) 256 256) 256 (ints .i64 ys)) ∧ Hid (Kp [] w wr)) (fun i _ => (256 - intOf i).toNat)
  case atStart => exact ⟨0, _, rfl, by omega, List.length_replicate, fun j h => by omega, HO0, HK0⟩
  case round =>
    obtain ⟨k, ys, rfl, hk, HY, HV, HO, HK⟩ := hrel
    by_cases hlt : (k : Int) < 256
    · have hcell : wr.cell? ⟨w.heap.size, k, none⟩ = some (.int .i64 (ys.getD k 0)) := by rw [HO.out.cellAt k (by omega), ints_get _ _ _ (by rw [HY.out]; omega)]
      have hfr := HO.out.frozenAt k
      have HLT := Lib.hid hlt
      have h5 := (HO.out.stored k (.int .i64 other)).1
      rw [show (ints .i64 ys).set k (.int .i64 other) = ints .i64 (ys.set k other) from by simp [ints]] at h5
      have HO5 := Lib.hid h5
      have HK5 : Hid (Kp [] w (wr.setCell ⟨w.heap.size, k, none⟩ (.int .i64 other))) := HK.out.setCell (p := ⟨w.heap.size, k, none⟩) (.inr (Nat.le_refl _)) _
      clear h5 hk
      generalize ys.getD k 0 = y0 at *
      by_cases hn0 : n = 0
      · subst hn0
        have hx : xs = [] := List.eq_nil_of_length_eq_zero HL.out
        subst hx
        go_wp2_with fail
        go_roundw
        case rel =>
          refine ⟨k + 1, ys.set k other, by go_num, by omega, by show _ = _; rw [List.length_set]; exact HY.out, ?_, HO5, HK5⟩
          show ∀ j, j < k + 1 → (ys.set k other).getD j 0 = colV [] other j
          intro j hj
          rw [List.getD_eq_getElem?_getD, List.getElem?_set]
          by_cases e : k = j
          · subst e
            rw [if_pos rfl, if_pos (by rw [HY.out]; omega)]
            rfl
          · rw [if_neg e, ← List.getD_eq_getElem?_getD]
            exact HV.out j (by omega)
        case measure => simp [intOf]; omega
      · obtain ⟨a, rfl, hc⟩ := (HRd.out.kp0 HK5.out).int (j := k % n) (by rw [HL.out]; exact Nat.mod_lt _ (by omega))
        have hm0 : 0 ≤ (k : Int) % (n : Int) := by omega
        have hm1 : (k : Int) % (n : Int) < (n : Int) := Int.emod_lt_of_pos _ (by omega)
        have hnp : (0 : Int) < n := by omega
        have hcv : xs.getD (k % n) 0 = colV xs other k := by
          rw [colV, if_neg (fun e => hn0 (by rw [← HL.out, e]; rfl)), HL.out]
        rw [hcv] at hc
        go_wp2_with fail
        go_roundw
        case rel =>
          have h6 := (HO5.out.stored k (.int .i64 (colV xs other k))).1
          rw [show (ints .i64 (ys.set k other)).set k (.int .i64 (colV xs other k)) = ints .i64 ((ys.set k other).set k (colV xs other k)) from by simp [ints]] at h6
          refine ⟨k + 1, (ys.set k other).set k (colV xs other k), by go_num, by omega, by show _ = _; rw [List.length_set, List.length_set]; exact HY.out, ?_, h6, HK5.out.setCell (p := ⟨w.heap.size, k, none⟩) (.inr (Nat.le_refl _)) _⟩
          show ∀ j, j < k + 1 → ((ys.set k other).set k (colV xs other k)).getD j 0 = colV xs other j
          intro j hj
          rw [List.getD_eq_getElem?_getD, List.set_set, List.getElem?_set]
          by_cases e : k = j
          · subst e
            rw [if_pos rfl, if_pos (by rw [HY.out]; omega)]
            rfl
          · rw [if_neg e, ← List.getD_eq_getElem?_getD]
            exact HV.out j (by omega)
        case measure => simp [intOf]; omega
    · have hke : k = 256 := by omega
      subst hke
      clear hk hlt
      have hys := colL_of HY.out (fun j hj => HV.out j hj)
      have HOf : Hid (wr.ownsRow w.heap.size 3 1 (.slice (some ⟨w.heap.size, 0, none⟩) 256 256) 256 (ints .i64 (colL xs other))) := by
        show World.ownsRow _ _ _ _ _ _ _
        rw [← hys]
        exact HO.out
      clear hys
      go_wp2_with fail
      go_ret
      exact ⟨_, rfl, Nat.le_refl _, HOf.out, HK.out⟩
end Go.Proofs.YtmliknefakoplaaDoor
