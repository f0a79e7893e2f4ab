/- (*chunk.Chunk).Bytes: all cells, in a row of its own. -/
import Derived.Test.YtmliknefakoplaaDoorChk
import Derived.Test.YtmliknefakoplaaDoorClone
namespace Go.Proofs.YtmliknefakoplaaDoor
open Go.RowKit
set_option linter.unusedVariables false
set_option linter.unusedSimpArgs false

/-- The cells one by one. -/
def cellsL (f : Nat → Int) : List Int := (List.range 32768).map f
theorem cellsL_length (f : Nat → Int) : (cellsL f).length = 32768 := by rw [cellsL, List.length_map, List.length_range]
theorem cellsL_get (f : Nat → Int) (i : Nat) (hi : i < 32768) : (cellsL f).getD i 0 = f i := by
  rw [cellsL, List.getD_eq_getElem?_getD, List.getElem?_map, List.getElem?_range hi]
  rfl
theorem cellsL_ext {f g : Nat → Int} (h : ∀ i, i < 32768 → f i = g i) : cellsL f = cellsL g := List.map_congr_left fun i hi => h i (List.mem_range.1 hi)
theorem cellsL_inj {f g : Nat → Int} (h : cellsL f = cellsL g) : ∀ i, i < 32768 → f i = g i := fun i hi => by rw [← cellsL_get f i hi, ← cellsL_get g i hi, h]
theorem Cells.rdL {N : Nat} {t : TypeId} {w : World} {b : Nat} {f : Nat → Int} (h : Cells N t w b f) : Rd w w.heap.size (some ⟨b, 0, none⟩) (ints .u8 (cellsL f)) := h.rd

set_option maxRecDepth 20000 in
set_option maxHeartbeats 400000 in
theorem chunk_Bytes (b : Nat) (f : Nat → Int) (w : World) (h : Chk w b f) :
    Calls Tryd.prog 13 #[.pointer (some ⟨b, 0, none⟩)] w fun e w' => ∃ v, e = .returned v ∧ w'.ownsRow w.heap.size 5 1 v 32768 (ints .u8 (cellsL f)) ∧ Kp [] w w' := by
  have HC := Lib.hid (clone_bytes (some ⟨b, 0, none⟩) 32768 32768 w.heap.size (ints .u8 (cellsL f)) w (fun h => by cases h) (Nat.le_refl _) (by rw [ints_length, cellsL_length]) h.rdL (ints_one _ _) (by omega))
  clear h
  generalize cellsL f = l at *
  go_enter Tryd.func13, Tryd.ntmps13
  go_wp2_with (go_at_call 21; refine HC.out.mono ?_; rintro e w1 ⟨v1, rfl, hown1, hk1⟩)
  go_ret
  exact ⟨v1, rfl, hown1, hk1⟩
end Go.Proofs.YtmliknefakoplaaDoor
