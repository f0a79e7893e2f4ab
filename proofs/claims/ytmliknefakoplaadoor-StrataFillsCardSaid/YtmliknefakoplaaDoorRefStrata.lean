/- The reference's At. -/
import Derived.Test.YtmliknefakoplaaDoorStrata
namespace Go.Proofs.YtmliknefakoplaaDoor
open Go.RowKit
set_option linter.unusedVariables false
set_option linter.unusedSimpArgs false

set_option maxRecDepth 20000 in
set_option maxHeartbeats 2000000 in
theorem ref_At (h band y : Int) (w : World) :
    Calls Tryd.prog 9 #[.int .i64 h, .int .i64 band, .int .i64 y] w fun e w' => e = .returned (.int .i64 (atS h band y)) ∧ w = w' := by
  by_cases hm : 0 ≤ h ∧ h < 128 ∧ 0 ≤ y ∧ y < 128 ∧ 0 ≤ band ∧ band < 4
  · obtain ⟨m1, m2, m3, m4, m5, m6⟩ := hm
    go_enter Tryd.func9, Tryd.ntmps9
    go_wp2
    all_goals
      go_ret
      refine ⟨ret_int ?_, rfl⟩
      (try simp only [beq_eq_false_iff_ne, beq_iff_eq, ne_eq, decide_eq_true_eq, decide_eq_false_iff_not] at *)
      unfold atS
      (repeat' split) <;> first | rfl | omega
  · have hz := atS_out (h := h) (band := band) (y := y) (by omega)
    have HZ := Lib.hid hz
    have h1 : h < 0 ∨ 128 ≤ h ∨ y < 0 ∨ 128 ≤ y ∨ band < 0 ∨ 4 ≤ band := by omega
    clear hz hm
    rcases h1 with h1 | h1 | h1 | h1 | h1 | h1
    all_goals
      go_enter Tryd.func9, Tryd.ntmps9
      go_wp2
      all_goals
        go_ret
        exact ⟨ret_int HZ.out.symm, rfl⟩
end Go.Proofs.YtmliknefakoplaaDoor
