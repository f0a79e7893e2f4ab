/- The reference's Clamp. -/
import Derived.Test.YthailfjdkphinaaClamp
namespace Go.Proofs.Ythailfjdkphinaa
open Go.RowKit
set_option linter.unusedVariables false
set_option linter.unusedSimpArgs false
set_option maxHeartbeats 400000 in
theorem ref_Clamp (v low high : Int) (w : World) :
    Calls Try.prog 23 #[.int .i64 v, .int .i64 low, .int .i64 high] w fun e w' => e = .returned (.int .i64 (clampS v low high)) ∧ w = w' := by
  by_cases h1 : v < low
  · have hs : clampS v low high = low := if_pos h1
    have HS := Lib.hid hs
    clear hs
    go_enter Try.func23, Try.ntmps23
    go_wp2
    go_ret
    exact ⟨ret_int HS.out.symm, rfl⟩
  · by_cases h2 : v ≤ high
    · have hs : clampS v low high = v := by rw [clampS, if_neg h1, if_pos h2]
      have HS := Lib.hid hs
      clear hs
      go_enter Try.func23, Try.ntmps23
      go_wp2
      go_ret
      exact ⟨ret_int HS.out.symm, rfl⟩
    · have hs : clampS v low high = high := by rw [clampS, if_neg h1, if_neg h2]
      have HS := Lib.hid hs
      clear hs
      go_enter Try.func23, Try.ntmps23
      go_wp2
      go_ret
      exact ⟨ret_int HS.out.symm, rfl⟩
end Go.Proofs.Ythailfjdkphinaa
