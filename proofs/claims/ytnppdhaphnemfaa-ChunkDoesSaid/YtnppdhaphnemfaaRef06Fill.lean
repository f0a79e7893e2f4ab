/- The reference's Fill. -/
import Derived.Test.YtnppdhaphnemfaaChkFill
namespace Go.Proofs.Ytnppdhaphnemfaa
open Go.RowKit
set_option linter.unusedVariables false
set_option linter.unusedSimpArgs false

set_option maxRecDepth 20000 in
set_option maxHeartbeats 1000000 in
theorem ref_Fill (b : Nat) (f : Nat → Int) (lo hi k : Int) (w : World) (h : Row w b f) :
    Calls Try.prog 28 #[.slice (some ⟨b, 0, none⟩) 32768 32768, .int .i64 lo, .int .i64 hi, .int .i64 k] w fun e w' => e = .returned (.bool (okFill lo hi k)) ∧ Row w' b (fillS f lo hi k) ∧ Kp [b] w w' := by
  have HH := Lib.hid h
  by_cases hi1 : (0 ≤ lo ∧ hi < 128 ∧ lo ≤ hi) ∧ (0 ≤ k ∧ k ≤ 16)
  · have HO : Hid (okFill lo hi k = true) := decide_eq_true hi1
    have HS : Hid (fillS f lo hi k = run f (lo * 256).toNat ((hi - lo + 1) * 256).toNat k) := if_pos HO.out
    obtain ⟨⟨i0, i1, i2⟩, k0, k1⟩ := hi1
    obtain ⟨p, rfl⟩ := Int.eq_ofNat_of_zero_le i0
    obtain ⟨q, rfl⟩ := Int.eq_ofNat_of_zero_le (show 0 ≤ hi by omega)
    obtain ⟨m, rfl⟩ : ∃ m, q = p + m := ⟨q - p, by omega⟩
    rw [show ((p : Int) * 256).toNat = p * 256 from by omega, show ((((p + m : Nat) : Int) - (p : Int) + 1) * 256).toNat = (m + 1) * 256 from by omega] at HS
    clear h
    rw [show ((p + m : Nat) : Int) = (p : Int) + (m : Int) from by omega] at *
    have d1 : decide ((p : Int) < 0) = false := decide_eq_false (by omega)
    have d2 : decide (128 ≤ (p : Int) + (m : Int)) = false := decide_eq_false (by omega)
    have d3 : decide ((p : Int) + (m : Int) < (p : Int)) = false := decide_eq_false (by omega)
    have d4 : decide (k < 0) = false := decide_eq_false (by omega)
    have d5 : decide (16 < k) = false := decide_eq_false (by omega)
    go_enter Try.func28, Try.ntmps28
    go_wp2
    go_loopw [9] (fun i wr => ∃ n : Nat, i = .int .i64 ((p : Int) * 256 + n) ∧ (n : Int) ≤ ((m : Int) + 1) * 256 ∧ Hid (Row wr b (run f (p * 256) n k)) ∧ Hid (Kp [b] w wr)) (fun i _ => (((p : Int) + (m : Int) + 1) * 256 - intOf i).toNat)
    case atStart => exact ⟨0, by go_num, by omega, (by show Row _ _ _; rw [run_zero]; exact HH.out), Kp.refl _ _⟩
    case round =>
      obtain ⟨n, rfl, hn, HB, HK⟩ := hrel
      by_cases hlt : (n : Int) < ((m : Int) + 1) * 256
      · have hc := HB.out.cell (i := p * 256 + n) (by omega)
        have hf := HB.out.frozen (p * 256 + n)
        generalize run f (p * 256) n k (p * 256 + n) = old at *
        have e1 : ((p : Int) * 256 + n).toNat = p * 256 + n := by omega
        have dl : decide ((p : Int) * 256 + n < ((p : Int) + (m : Int) + 1) * 256) = true := decide_eq_true (by omega)
        go_wp2
        go_roundw
        case rel =>
          refine ⟨n + 1, by go_num, by omega, ?_, ?_⟩
          · show Row _ _ _
            rw [run_succ]
            exact HB.out.put (p * 256 + n) k k0 k1
          · exact HK.out.setCell (p := ⟨b, p * 256 + n, none⟩) (.inl (by simp)) _
        case measure => simp [intOf] <;> omega
      · have hne : n = (m + 1) * 256 := by omega
        have dl : decide ((p : Int) * 256 + n < ((p : Int) + (m : Int) + 1) * 256) = false := decide_eq_false (by omega)
        have HNE := Lib.hid hne
        clear hne hlt
        go_wp2
        go_ret
        exact ⟨ret_bool HO.out.symm, by rw [HS.out, ← HNE.out]; exact HB.out, HK.out⟩
  · have HO : Hid (okFill lo hi k = false) := decide_eq_false hi1
    have HS : Hid (fillS f lo hi k = f) := by
      show _ = _
      rw [fillS, HO.out]
      rfl
    have hd : (decide (lo < 0) = true) ∨ (decide (lo < 0) = false ∧ decide (128 ≤ hi) = true) ∨ (decide (lo < 0) = false ∧ decide (128 ≤ hi) = false ∧ decide (hi < lo) = true) ∨ (decide (lo < 0) = false ∧ decide (128 ≤ hi) = false ∧ decide (hi < lo) = false ∧ decide (k < 0) = true) ∨ (decide (lo < 0) = false ∧ decide (128 ≤ hi) = false ∧ decide (hi < lo) = false ∧ decide (k < 0) = false ∧ decide (16 < k) = true) := by
      simp only [decide_eq_true_eq, decide_eq_false_iff_not]
      omega
    clear hi1 h
    rcases hd with d1 | ⟨d1, d2⟩ | ⟨d1, d2, d3⟩ | ⟨d1, d2, d3, d4⟩ | ⟨d1, d2, d3, d4, d5⟩
    all_goals
      go_enter Try.func28, Try.ntmps28
      go_wp2
      go_ret
      exact ⟨ret_bool HO.out.symm, by rw [HS.out]; exact HH.out, Kp.refl _ _⟩
end Go.Proofs.Ytnppdhaphnemfaa
