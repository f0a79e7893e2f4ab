/- The walks of the reference: outcropref01.Div, outcropref01.Mod. -/
import Derived.Test.YthjbapjmlkbeoaaDiv
namespace Go.Proofs.Ythjbapjmlkbeoaa
open Go.RowKit
set_option linter.unusedVariables false
set_option linter.unusedSimpArgs false

set_option maxHeartbeats 400000 in
theorem ref_Div (a b : Int) (w : World) (ha : I64 a) :
    Calls Try.prog 30 #[.int .i64 a, .int .i64 b] w fun e w' => e = .returned (.int .i64 (fdiv a b)) ∧ w = w' := by
  by_cases h : b < 1
  · have hf : fdiv a b = 0 := if_pos h
    have H := Lib.hid hf
    clear hf
    go_enter Try.func30, Try.ntmps30
    go_wp2
    go_ret
    exact ⟨ret_int H.out.symm, rfl⟩
  · have hf : fdiv a b = a / b := if_neg h
    have hb : 1 ≤ b := by omega
    have hr := ediv_range ha hb
    have H := Lib.hid hf
    have HR := Lib.hid hr
    rcases tdiv_cases (a := a) hb with ⟨h1, h2, h3⟩ | ⟨h1, h2, h3⟩
    · have HT := Lib.hid h2
      clear hf hr h2 h3 ha h
      go_enter Try.func30, Try.ntmps30
      go_wp2
      go_ret
      refine ⟨ret_int ?_, rfl⟩
      have h4 := HT.out
      have h5 := HR.out
      rw [H.out]
      unfold I64 at h5
      unfold wrap64
      omega
    · have HT := Lib.hid h2
      clear hf hr h2 h3 ha h
      go_enter Try.func30, Try.ntmps30
      go_wp2
      go_ret
      refine ⟨ret_int ?_, rfl⟩
      have h4 := HT.out
      have h5 := HR.out
      rw [H.out]
      unfold I64 at h5
      unfold wrap64
      omega

set_option maxHeartbeats 400000 in
theorem ref_Mod (a b : Int) (w : World) (ha : I64 b) :
    Calls Try.prog 32 #[.int .i64 a, .int .i64 b] w fun e w' => e = .returned (.int .i64 (fmod a b)) ∧ w = w' := by
  by_cases h : b < 1
  · have hf : fmod a b = 0 := if_pos h
    have H := Lib.hid hf
    clear hf
    go_enter Try.func32, Try.ntmps32
    go_wp2
    go_ret
    exact ⟨ret_int H.out.symm, rfl⟩
  · have hf : fmod a b = a % b := if_neg h
    have hb : 1 ≤ b := by omega
    have hr := emod_range (a := a) hb
    have H := Lib.hid hf
    have HR := Lib.hid hr
    have HA := Lib.hid ha
    rcases tdiv_cases (a := a) hb with ⟨h1, h2, h3⟩ | ⟨h1, h2, h3⟩
    · have HT := Lib.hid h3
      clear hf hr h2 h3 ha h
      go_enter Try.func32, Try.ntmps32
      go_wp2
      go_ret
      refine ⟨ret_int ?_, rfl⟩
      have h4 := HT.out
      have h5 := HR.out
      have h6 := HA.out
      rw [H.out]
      unfold I64 at h6
      unfold wrap64
      omega
    · have HT := Lib.hid h3
      clear hf hr h2 h3 ha h
      go_enter Try.func32, Try.ntmps32
      go_wp2
      go_ret
      refine ⟨ret_int ?_, rfl⟩
      rw [H.out, HT.out]
end Go.Proofs.Ythjbapjmlkbeoaa
