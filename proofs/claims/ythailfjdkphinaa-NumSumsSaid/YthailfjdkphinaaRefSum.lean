/- The reference's Sum. -/
import Derived.Test.YthailfjdkphinaaSum
namespace Go.Proofs.Ythailfjdkphinaa
open Go.RowKit
set_option linter.unusedVariables false
set_option linter.unusedSimpArgs false
set_option maxRecDepth 20000 in
set_option maxHeartbeats 400000 in
theorem ref_Sum (A : Option Addr) (n c B : Nat) (xs : List Int) (w : World) (hl : xs.length = n) (hr : Rd w B A (ints .u8 xs)) (hn : n ≤ 140737488355328) (hx : ∀ x ∈ xs, 0 ≤ x ∧ x < 256) :
    Calls Try.prog 21 #[.slice A n c] w fun e w' => e = .returned (.int .u32 (sumb 2166136261 xs)) ∧ w = w' := by
  have HL := Lib.hid hl
  have HX := Lib.hid hx
  clear hl hx
  go_enter Try.func21, Try.ntmps21
  go_wp2
  go_loop [3, 4] (fun v i => ∃ (k : Nat), i = .int .i64 k ∧ v = .int .u32 (sumb 2166136261 (xs.take k)) ∧ k ≤ n) (fun _ i => n - (intOf i).toNat)
  case atStart => exact ⟨0, rfl, rfl, by omega⟩
  case round =>
    obtain ⟨k, rfl, rfl, hkn⟩ := hrel
    by_cases hlt : k < n
    · obtain ⟨a, rfl, hc⟩ := hr.int (j := k) (by rw [HL.out]; exact hlt)
      have hbm : 0 ≤ xs.getD k 0 ∧ xs.getD k 0 < 256 := HX.out _ (by
        rw [List.getD_eq_getElem?_getD, List.getElem?_eq_getElem (by rw [HL.out]; exact hlt)]
        exact List.getElem_mem _)
      have HT := Lib.hid (take_next xs k (by rw [HL.out]; exact hlt))
      have HM := Lib.hid (mixb_walk (sumb_lt (xs.take k) 2166136261 (by omega)) hbm.1 hbm.2)
      generalize xs.getD k 0 = b at *
      go_wp2
      go_round
      case rel =>
        refine ⟨k + 1, by go_num, ?_, by omega⟩
        rw [HT.out, sumb_snoc, ← HM.out]
      case measure =>
        simp [intOf]
        omega
    · go_wp2
      go_ret
      refine ⟨?_, rfl⟩
      rw [List.take_of_length_le (by rw [HL.out]; omega)]
      rfl
end Go.Proofs.Ythailfjdkphinaa
