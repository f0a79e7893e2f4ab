/- NumClamps: any number between any bounds. -/
import Derived.Test.YthailfjdkphinaaAwake01
import Derived.Test.YthailfjdkphinaaRefClamp
namespace Go.Proofs.Ythailfjdkphinaa
open Go.RowKit
set_option linter.unusedVariables false
set_option linter.unusedSimpArgs false

theorem clampS_in {v low high : Int} (h : low ≤ high) : low ≤ clampS v low high ∧ clampS v low high ≤ high := by
  unfold clampS
  split
  · omega
  · split <;> omega
theorem clampS_again {v low high : Int} (h : low ≤ high) : clampS (clampS v low high) low high = clampS v low high := by
  have h1 := clampS_in (v := v) h
  generalize clampS v low high = n at *
  rw [clampS, if_neg (by omega), if_pos h1.2]

set_option maxRecDepth 20000 in
set_option maxHeartbeats 1000000 in
theorem NumClamps_walk (w : World) (v : Int) (hv : I64 v) (low : Int) (hl : I64 low) (high : Int) (hh : I64 high) :
    Calls Try.prog 10 #[.int .i64 v, .int .i64 low, .int .i64 high] w fun e w' => e = .returned (.bool true) ∧ Kp [] w w' := by
  have h1 := fun W => num_Clamp v low high W
  have h2 := fun W => ref_Clamp v low high W
  have h3 := fun W => num_Clamp (clampS v low high) low high W
  clear hv hl hh
  by_cases hb : low ≤ high
  · have hi := clampS_in (v := v) hb
    rw [clampS_again hb] at h3
    generalize clampS v low high = q at *
    have H1 := Lib.hid h1
    have H2 := Lib.hid h2
    have H3 := Lib.hid h3
    obtain ⟨i1, i2⟩ := hi
    clear h1 h2 h3
    go_enter Try.func10, Try.ntmps10
    go_wp2_with (first | (go_at_call 11; refine (awake _).mono ?_; rintro e w1 ⟨rfl, hk1⟩; have t1 : True := trivial) | (go_at_call 22; have t2 := t1; refine (H1.out _).mono ?_; rintro e w2 ⟨rfl, rfl⟩; clear t1) | (go_at_call 23; refine (H2.out _).mono ?_; rintro e w2 ⟨rfl, rfl⟩) | (go_at_call 22; refine (H3.out _).mono ?_; rintro e w2 ⟨rfl, rfl⟩))
    all_goals
      go_ret
      exact ⟨rfl, hk1⟩
  · generalize clampS v low high = q at *
    have H1 := Lib.hid h1
    have H2 := Lib.hid h2
    clear h1 h2 h3
    go_enter Try.func10, Try.ntmps10
    go_wp2_with (first | (go_at_call 11; refine (awake _).mono ?_; rintro e w1 ⟨rfl, hk1⟩) | (go_at_call 22; refine (H1.out _).mono ?_; rintro e w2 ⟨rfl, rfl⟩) | (go_at_call 23; refine (H2.out _).mono ?_; rintro e w2 ⟨rfl, rfl⟩))
    all_goals
      go_ret
      exact ⟨rfl, hk1⟩
end Go.Proofs.Ythailfjdkphinaa
