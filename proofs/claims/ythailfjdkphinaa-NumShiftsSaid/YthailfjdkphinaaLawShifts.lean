/- NumShifts: some divisors more. -/
import Derived.Test.YthailfjdkphinaaAwake01
namespace Go.Proofs.Ythailfjdkphinaa
open Go.RowKit
set_option linter.unusedVariables false
set_option linter.unusedSimpArgs false

set_option maxRecDepth 20000 in
set_option maxHeartbeats 1000000 in
theorem NumShifts_walk (w : World) (a : Int) (ha : I64 a) (b : Int) (hb : I64 b) (k : Int) (hk : I64 k) :
    Calls Try.prog 8 #[.int .i64 a, .int .i64 b, .int .i64 k] w fun e w' => e = .returned (.bool true) ∧ Kp [] w w' := by
  by_cases h : -1073741824 ≤ a ∧ a ≤ 1073741824 ∧ 1 ≤ b ∧ b ≤ 1048576 ∧ -1073741824 ≤ k ∧ k ≤ 1073741824
  · obtain ⟨a1, a2, b1, b2, k1, k2⟩ := h
    have p1 : k * b ≤ 1073741824 * 1048576 ∧ -1073741824 * 1048576 ≤ k * b := by
      have h1 : k * b ≤ 1073741824 * b := Int.mul_le_mul_of_nonneg_right k2 (by omega)
      have h2 : -1073741824 * b ≤ k * b := Int.mul_le_mul_of_nonneg_right k1 (by omega)
      omega
    have e0 : fdiv a b = a / b := if_neg (by omega)
    have e1 : fmod a b = a % b := if_neg (by omega)
    have e2 : fdiv (a + k * b) b = a / b + k := by
      rw [fdiv, if_neg (by omega), Int.add_mul_ediv_right _ _ (by omega)]
    have e3 : fmod (a + k * b) b = a % b := by
      rw [fmod, if_neg (by omega), Int.add_mul_emod_self_right]
    have h1 := fun W => num_Div a b W ha
    have h2 := fun W => num_Mod a b W hb
    have h3 := fun W => num_Div (a + k * b) b W ⟨by omega, by omega⟩
    have h4 := fun W => num_Mod (a + k * b) b W hb
    have hr := ediv_range (a := a) (b := b) ⟨by omega, by omega⟩ b1
    have hq : -1073741824 ≤ a / b ∧ a / b ≤ 1073741824 := by
      constructor
      · rw [Int.le_ediv_iff_mul_le (by omega)]
        have : -1073741824 * b ≤ -1073741824 * 1 := Int.mul_le_mul_of_nonpos_left (by omega) b1
        omega
      · have h3 : a / b < 1073741825 := by
          rw [Int.ediv_lt_iff_lt_mul (by omega)]
          have : 1073741825 * 1 ≤ 1073741825 * b := Int.mul_le_mul_of_nonneg_left b1 (by omega)
          omega
        omega
    rw [e0] at h1
    rw [e1] at h2
    rw [e2] at h3
    rw [e3] at h4
    obtain ⟨p2, p3⟩ := p1
    obtain ⟨q1, q2⟩ := hq
    generalize a / b = q at *
    generalize a % b = m at *
    have H1 := Lib.hid h1
    have H2 := Lib.hid h2
    have H3 := Lib.hid h3
    have H4 := Lib.hid h4
    clear h1 h2 h3 h4 ha hb hk hr e0 e1 e2 e3
    go_enter Try.func8, Try.ntmps8
    go_wp2_with (first | (go_at_call 11; refine (awake _).mono ?_; rintro e w1 ⟨rfl, hk1⟩; have t1 : True := trivial; have s1 : True := trivial) | (go_at_call 12; have t2 := t1; refine (H3.out _).mono ?_; rintro e w2 ⟨rfl, rfl⟩; clear t1) | (go_at_call 12; refine (H1.out _).mono ?_; rintro e w2 ⟨rfl, rfl⟩) | (go_at_call 13; have s2 := s1; refine (H4.out _).mono ?_; rintro e w2 ⟨rfl, rfl⟩; clear s1) | (go_at_call 13; refine (H2.out _).mono ?_; rintro e w2 ⟨rfl, rfl⟩))
    all_goals
      go_ret
      exact ⟨rfl, hk1⟩
  · have h' : a < -1073741824 ∨ 1073741824 < a ∨ b < 1 ∨ 1048576 < b ∨ k < -1073741824 ∨ 1073741824 < k := by omega
    clear h ha hb hk
    rcases h' with h | h | h | h | h | h
    all_goals
      go_enter Try.func8, Try.ntmps8
      go_wp2_with (first | (go_at_call 11; refine (awake _).mono ?_; rintro e w1 ⟨rfl, hk1⟩))
      all_goals
        go_ret
        exact ⟨rfl, hk1⟩
end Go.Proofs.Ythailfjdkphinaa
