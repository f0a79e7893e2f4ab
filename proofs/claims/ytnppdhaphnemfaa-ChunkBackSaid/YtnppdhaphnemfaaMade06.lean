/- Made: a chunk of cells. -/
import Derived.Test.YtnppdhaphnemfaaChkFrom
namespace Go.Proofs.Ytnppdhaphnemfaa
open Go.RowKit
set_option linter.unusedVariables false
set_option linter.unusedSimpArgs false

theorem cellsL_wf {F : Nat → Int} (h : ∀ i, i < 32768 → 0 ≤ F i ∧ F i ≤ 16) : ∀ x ∈ cellsL F, 0 ≤ x ∧ x < 256 := fun x hx => by
  obtain ⟨i, hi, rfl⟩ := List.mem_map.1 hx
  have := h i (List.mem_range.1 hi)
  omega
theorem mayS_cells {F : Nat → Int} (h : ∀ i, i < 32768 → 0 ≤ F i ∧ F i ≤ 16) : mayS (cellsL F) = 0 := by
  refine mayS_ok (cellsL_length F) ?_
  have := (mx_le (cellsL F) 16 (by omega) 32768 (by rw [cellsL_length]; exact Nat.le_refl _)).2 (fun i hi => by
    rw [cellsL_get F i hi]
    exact (h i hi).2)
  omega

set_option maxHeartbeats 1000000 in
theorem Made06 (A : Option Addr) (c B : Nat) (F : Nat → Int) (w : World) (hr : Rd w B A (ints .u8 (cellsL F))) (hF : ∀ i, i < 32768 → 0 ≤ F i ∧ F i ≤ 16) :
    Calls Try.prog 27 #[.slice A 32768 c] w fun e w' => ∃ b, e = .returned (.pointer (some ⟨b, 0, none⟩)) ∧ w.heap.size ≤ b ∧ Chk w' b F ∧ Kp [] w w' := by
  have H := Lib.hid (chunk_From A 32768 c B (cellsL F) w (cellsL_length F) hr (cellsL_wf hF) (mayS_cells hF))
  clear hr hF
  go_enter Try.func27, Try.ntmps27
  go_wp2_with (go_at_call 20; refine H.out.mono ?_; rintro e w1 ⟨b, rfl, hb, hc1, hk1⟩)
  go_ret
  exact ⟨b, rfl, hb, hc1.ext fun i hi => (cellsL_get F i hi).symm, hk1⟩
end Go.Proofs.Ytnppdhaphnemfaa
