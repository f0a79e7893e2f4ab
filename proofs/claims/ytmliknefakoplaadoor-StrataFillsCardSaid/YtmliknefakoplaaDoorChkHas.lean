/- chunk.has, chunk.may: is there such a place, such a kind? -/
import Derived.Test.YtmliknefakoplaaDoorChk
namespace Go.Proofs.YtmliknefakoplaaDoor
open Go.RowKit
set_option linter.unusedVariables false
set_option linter.unusedSimpArgs false

set_option maxHeartbeats 400000 in
theorem chunk_has (i : Int) (w : World) :
    Calls Tryd.prog 24 #[.int .i64 i] w fun e w' => e = .returned (.bool (decide (0 ≤ i ∧ i < 32768))) ∧ w = w' := by
  by_cases h1 : 0 ≤ i
  · by_cases h2 : i < 32768
    all_goals
      go_enter Tryd.func24, Tryd.ntmps24
      go_wp2
      go_ret
      exact ⟨ret_bool (by rw [Bool.eq_iff_iff]; simp <;> omega), rfl⟩
  · go_enter Tryd.func24, Tryd.ntmps24
    go_wp2
    go_ret
    exact ⟨ret_bool (by rw [Bool.eq_iff_iff]; simp <;> omega), rfl⟩

set_option maxHeartbeats 400000 in
theorem chunk_may (i : Int) (w : World) :
    Calls Tryd.prog 25 #[.int .i64 i] w fun e w' => e = .returned (.bool (decide (0 ≤ i ∧ i ≤ 16))) ∧ w = w' := by
  by_cases h1 : 0 ≤ i
  · by_cases h2 : i ≤ 16
    all_goals
      go_enter Tryd.func25, Tryd.ntmps25
      go_wp2
      go_ret
      exact ⟨ret_bool (by rw [Bool.eq_iff_iff]; simp <;> omega), rfl⟩
  · go_enter Tryd.func25, Tryd.ntmps25
    go_wp2
    go_ret
    exact ⟨ret_bool (by rw [Bool.eq_iff_iff]; simp <;> omega), rfl⟩
end Go.Proofs.YtmliknefakoplaaDoor
