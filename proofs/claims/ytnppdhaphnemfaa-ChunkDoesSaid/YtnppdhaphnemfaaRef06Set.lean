/- The reference's Set. -/
import Derived.Test.YtnppdhaphnemfaaChkSet
namespace Go.Proofs.Ytnppdhaphnemfaa
open Go.RowKit
set_option linter.unusedVariables false
set_option linter.unusedSimpArgs false

set_option maxRecDepth 20000 in
set_option maxHeartbeats 400000 in
theorem ref_Set (b : Nat) (f : Nat → Int) (i k : Int) (w : World) (h : Row w b f) :
    Calls Try.prog 29 #[.slice (some ⟨b, 0, none⟩) 32768 32768, .int .i64 i, .int .i64 k] w fun e w' => e = .returned (.bool (okSet i k)) ∧ Row w' b (setS f i k) ∧ Kp [b] w w' := by
  by_cases hi : (0 ≤ i ∧ i < 32768) ∧ (0 ≤ k ∧ k ≤ 16)
  · have HO : Hid (okSet i k = true) := decide_eq_true hi
    have HS : Hid (setS f i k = fun j => if j = i.toNat then k else f j) := if_pos HO.out
    obtain ⟨⟨i0, i1⟩, k0, k1⟩ := hi
    obtain ⟨q, rfl⟩ := Int.eq_ofNat_of_zero_le i0
    have d1 : decide ((q : Int) < 0) = false := decide_eq_false (by omega)
    have d2 : decide ((32768 : Int) ≤ (q : Int)) = false := decide_eq_false (by omega)
    have d3 : decide (k < 0) = false := decide_eq_false (by omega)
    have d4 : decide (16 < k) = false := decide_eq_false (by omega)
    have hc := h.cell (i := q) (by omega)
    have hf := h.frozen q
    have HP := Lib.hid (h.put q k k0 k1)
    rw [Int.toNat_natCast] at HS
    have hlt := h.lt
    clear h
    go_enter Try.func29, Try.ntmps29
    go_wp2
    go_ret
    refine ⟨ret_bool HO.out.symm, ?_, (Kp.refl _ _).setCell (p := ⟨b, q, none⟩) (.inl (by simp)) _⟩
    rw [HS.out]
    exact HP.out
  · have HO : Hid (okSet i k = false) := decide_eq_false hi
    have HS : Hid (setS f i k = f) := by
      show _ = _
      rw [setS, HO.out]
      rfl
    have HH := Lib.hid h
    have hd : (decide (i < 0) = true) ∨ (decide (i < 0) = false ∧ decide (32768 ≤ i) = true) ∨ (decide (i < 0) = false ∧ decide (32768 ≤ i) = false ∧ decide (k < 0) = true) ∨ (decide (i < 0) = false ∧ decide (32768 ≤ i) = false ∧ decide (k < 0) = false ∧ decide (16 < k) = true) := by
      simp only [decide_eq_true_eq, decide_eq_false_iff_not]
      omega
    clear hi h
    rcases hd with d1 | ⟨d1, d2⟩ | ⟨d1, d2, d3⟩ | ⟨d1, d2, d3, d4⟩
    all_goals
      go_enter Try.func29, Try.ntmps29
      go_wp2
      go_ret
      exact ⟨ret_bool HO.out.symm, by rw [HS.out]; exact HH.out, Kp.refl _ _⟩
end Go.Proofs.Ytnppdhaphnemfaa
