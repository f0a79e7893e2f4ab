/- NumDivides: for any two numbers the law's walk ends in true. -/
import Derived.Test.YthailfjdkphinaaAwake01
import Derived.Test.YthailfjdkphinaaRefDiv
namespace Go.Proofs.Ythailfjdkphinaa
open Go.RowKit
set_option linter.unusedVariables false
set_option linter.unusedSimpArgs false

set_option maxRecDepth 20000 in
set_option maxHeartbeats 1000000 in
theorem NumDivides_walk (w : World) (a : Int) (ha : I64 a) (b : Int) (hb : I64 b) :
    Calls Try.prog 3 #[.int .i64 a, .int .i64 b] w fun e w' => e = .returned (.bool true) ∧ Kp [] w w' := by
  have hd := fun W => num_Div a b W ha
  have hm := fun W => num_Mod a b W hb
  have hd' := fun W => ref_Div a b W ha
  have hm' := fun W => ref_Mod a b W hb
  by_cases h1 : b < 1
  · have e1 : fdiv a b = 0 := if_pos h1
    have e2 : fmod a b = 0 := if_pos h1
    rw [e1] at hd hd'
    rw [e2] at hm hm'
    have HD := Lib.hid hd
    have HM := Lib.hid hm
    have HD' := Lib.hid hd'
    have HM' := Lib.hid hm'
    clear hd hm hd' hm' e1 e2 ha hb
    go_enter Try.func3, Try.ntmps3
    go_wp2_with (first | (go_at_call 11; refine (awake _).mono ?_; rintro e w1 ⟨rfl, hk1⟩) | (go_at_call 12; refine (HD.out _).mono ?_; rintro e w2 ⟨rfl, rfl⟩) | (go_at_call 13; refine (HM.out _).mono ?_; rintro e w2 ⟨rfl, rfl⟩) | (go_at_call 14; refine (HD'.out _).mono ?_; rintro e w2 ⟨rfl, rfl⟩) | (go_at_call 15; refine (HM'.out _).mono ?_; rintro e w2 ⟨rfl, rfl⟩))
    all_goals
      go_ret
      exact ⟨rfl, hk1⟩
  · have e1 : fdiv a b = a / b := if_neg h1
    have e2 : fmod a b = a % b := if_neg h1
    have hb1 : 1 ≤ b := by omega
    have hr := emod_range (a := a) hb1
    have hq := Int.mul_ediv_add_emod a b
    rw [e1] at hd hd'
    rw [e2] at hm hm'
    rw [Int.mul_comm] at hq
    have hlim : -1099511627776 ≤ a → a ≤ 1099511627776 → -1099511627776 ≤ a / b ∧ a / b ≤ 1099511627776 := fun l1 l2 => by
      have hn : -1099511627776 * b ≤ a / b * b ∨ True := .inr trivial
      constructor
      · rw [Int.le_ediv_iff_mul_le (by omega)]
        have : -1099511627776 * b ≤ -1099511627776 * 1 := Int.mul_le_mul_of_nonpos_left (by omega) hb1
        omega
      · have h3 : a / b < 1099511627777 := by
          rw [Int.ediv_lt_iff_lt_mul (by omega)]
          have : 1099511627777 * 1 ≤ 1099511627777 * b := Int.mul_le_mul_of_nonneg_left hb1 (by omega)
          omega
        omega
    clear e1 e2
    generalize a / b = q at *
    generalize a % b = m at *
    have HD := Lib.hid hd
    have HM := Lib.hid hm
    have HD' := Lib.hid hd'
    have HM' := Lib.hid hm'
    clear hd hm hd' hm'
    by_cases h2 : -1099511627776 ≤ a ∧ a ≤ 1099511627776 ∧ b ≤ 1048576
    · obtain ⟨l1, l2, l3⟩ := h2
      obtain ⟨q1, q2⟩ := hlim l1 l2
      have p1 : -1152921504606846976 ≤ q * b ∧ q * b ≤ 1152921504606846976 := by omega
      have hbe : (q * b + m == a) = true := by rw [beq_iff_eq]; exact hq
      clear ha hb hlim hq
      go_enter Try.func3, Try.ntmps3
      go_wp2_with (first | (go_at_call 11; refine (awake _).mono ?_; rintro e w1 ⟨rfl, hk1⟩) | (go_at_call 12; refine (HD.out _).mono ?_; rintro e w2 ⟨rfl, rfl⟩) | (go_at_call 13; refine (HM.out _).mono ?_; rintro e w2 ⟨rfl, rfl⟩) | (go_at_call 14; refine (HD'.out _).mono ?_; rintro e w2 ⟨rfl, rfl⟩) | (go_at_call 15; refine (HM'.out _).mono ?_; rintro e w2 ⟨rfl, rfl⟩))
      all_goals
        go_ret
        refine ⟨?_, hk1⟩
        first | rfl | exact ret_bool hbe
    · have h2' : a < -1099511627776 ∨ 1099511627776 < a ∨ 1048576 < b := by omega
      clear ha hb hlim hq h2
      rcases h2' with h2 | h2 | h2
      all_goals
        go_enter Try.func3, Try.ntmps3
        go_wp2_with (first | (go_at_call 11; refine (awake _).mono ?_; rintro e w1 ⟨rfl, hk1⟩) | (go_at_call 12; refine (HD.out _).mono ?_; rintro e w2 ⟨rfl, rfl⟩) | (go_at_call 13; refine (HM.out _).mono ?_; rintro e w2 ⟨rfl, rfl⟩) | (go_at_call 14; refine (HD'.out _).mono ?_; rintro e w2 ⟨rfl, rfl⟩) | (go_at_call 15; refine (HM'.out _).mono ?_; rintro e w2 ⟨rfl, rfl⟩))
        all_goals
          go_ret
          refine ⟨?_, hk1⟩
          first | rfl | (refine ret_bool ?_; simp; omega)
end Go.Proofs.Ythailfjdkphinaa
