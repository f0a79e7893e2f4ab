/- (*chunk.Chunk).Fill: layers of a kind. -/
import Derived.Test.YtnppdhaphnemfaaChkHas
import Derived.Test.YtnppdhaphnemfaaChkCounts
namespace Go.Proofs.Ytnppdhaphnemfaa
open Go.RowKit
set_option linter.unusedVariables false
set_option linter.unusedSimpArgs false

def okFill (lo hi k : Int) : Bool := decide ((0 ≤ lo ∧ hi < 128 ∧ lo ≤ hi) ∧ (0 ≤ k ∧ k ≤ 16))
/-- Cells s, .., s + n - 1 are k. -/
def run (f : Nat → Int) (s n : Nat) (k : Int) : Nat → Int := fun j => if s ≤ j ∧ j < s + n then k else f j
def fillS (f : Nat → Int) (lo hi k : Int) : Nat → Int := if okFill lo hi k then run f (lo * 256).toNat ((hi - lo + 1) * 256).toNat k else f
theorem run_zero (f : Nat → Int) (s : Nat) (k : Int) : run f s 0 k = f := by
  funext j
  rw [run, if_neg (by omega)]
theorem run_succ (f : Nat → Int) (s n : Nat) (k : Int) : run f s (n + 1) k = fun j => if j = s + n then k else run f s n k j := by
  funext j
  unfold run
  by_cases h : j = s + n
  · rw [if_pos (by omega), if_pos h]
  · rw [if_neg h]
    by_cases h2 : s ≤ j ∧ j < s + n
    · rw [if_pos h2, if_pos (by omega)]
    · rw [if_neg h2, if_neg (by omega)]

theorem cells_len : Try.prog.arrayLen 58 = 32768 := by kernel_rfl
theorem cells_elem : Try.prog.elem 58 = 5 := by kernel_rfl
theorem run_slice_cells (b p m : Nat) (hm : p + m < 128) (W : World) : (Instr.sliceAt 58 (.pointer (some ⟨b, 0, none⟩)) (some (.int .i64 ((p : Int) * 256))) (some (.int .i64 ((((p : Int) + (m : Int)) + 1) * 256))) none).run Try.prog W = .ok (.slice (some ⟨b, p * 256, none⟩) ((m + 1) * 256) (32768 - p * 256)) W := by
  obtain ⟨j, hj, hj1⟩ := Option.map_eq_some_iff.1 u8_looks
  have hsz : (sizeOf 5).run Try.prog W = .ok 1 W := by simp [sizeOf, typeInfo, hj, hj1]
  rw [run_sliceAt_array_lh W 58 ⟨b, 0, none⟩ (by rw [cells_len, cells_elem]; exact Try.underlying58) _ _ _ _ (by omega) (by omega) (by rw [cells_len]; omega), cells_len, cells_elem, hsz, Result.andThen_ok]
  unfold slicedAt
  rw [show ((p : Int) * 256).toNat = p * 256 from by omega, show ((((p : Int) + (m : Int)) + 1) * 256).toNat = p * 256 + (m + 1) * 256 from by omega, if_neg (by omega), Nat.add_sub_cancel_left, Nat.mul_one]
  simp [Addr.add]
  omega

set_option maxRecDepth 20000 in
set_option maxHeartbeats 1000000 in
theorem chunk_Fill (b : Nat) (f : Nat → Int) (lo hi k : Int) (w : World) (h : Chk w b f) :
    Calls Try.prog 25 #[.pointer (some ⟨b, 0, none⟩), .int .i64 lo, .int .i64 hi, .int .i64 k] w fun e w' => e = .returned (.bool (okFill lo hi k)) ∧ Chk w' b (fillS f lo hi k) ∧ Kp [b] w w' := by
  have HH := Lib.hid h
  have hlt := h.lt
  by_cases hi1 : 0 ≤ lo ∧ hi < 128 ∧ lo ≤ hi
  · by_cases hk : 0 ≤ k ∧ k ≤ 16
    · have HO : Hid (okFill lo hi k = true) := decide_eq_true ⟨hi1, hk⟩
      have HS : Hid (fillS f lo hi k = run f (lo * 256).toNat ((hi - lo + 1) * 256).toNat k) := if_pos HO.out
      have hb2 := decide_eq_true hk
      obtain ⟨i0, i1, i2⟩ := hi1
      obtain ⟨k0, k1⟩ := hk
      obtain ⟨p, rfl⟩ := Int.eq_ofNat_of_zero_le i0
      obtain ⟨q, rfl⟩ := Int.eq_ofNat_of_zero_le (show 0 ≤ hi by omega)
      obtain ⟨m, rfl⟩ : ∃ m, q = p + m := ⟨q - p, by omega⟩
      rw [show ((p : Int) * 256).toNat = p * 256 from by omega, show ((((p + m : Nat) : Int) - (p : Int) + 1) * 256).toNat = (m + 1) * 256 from by omega] at HS
      clear h
      have hsl := run_slice_cells b p m (by omega) w
      obtain ⟨s, hs⟩ : ∃ s, s = p * 256 := ⟨_, rfl⟩
      obtain ⟨N, hN⟩ : ∃ N, N = (m + 1) * 256 := ⟨_, rfl⟩
      obtain ⟨C, hC⟩ : ∃ C, C = 32768 - p * 256 := ⟨_, rfl⟩
      have hsN : (s : Int) + (N : Int) ≤ 32768 := by omega
      rw [← hC, ← hs, ← hN] at hsl
      rw [← hs, ← hN] at HS
      have HSL := Lib.hid hsl
      clear hC hs hN hsl
      rw [show ((p + m : Nat) : Int) = (p : Int) + (m : Int) from by omega] at *
      have d1 : decide ((p : Int) < 0) = false := decide_eq_false (by omega)
      have d2 : decide (128 ≤ (p : Int) + (m : Int)) = false := decide_eq_false (by omega)
      have d3 : decide ((p : Int) + (m : Int) < (p : Int)) = false := decide_eq_false (by omega)
      go_enter Try.func25, Try.ntmps25
      go_wp2_with (first | (go_at_call 33; refine (chunk_may _ _).mono ?_; rintro e w1 ⟨rfl, rfl⟩) | ((with_reducible refine gate_op (.slice 58 (.tmp 29) (some (.tmp 31)) (some (.tmp 34)) none) rfl ?_); refine wpList_slice_of rfl 58 (.tmp 29) (.tmp 31) (.tmp 34) rfl rfl rfl rfl HSL.out ?_))
      clear HSL d1 d2 d3 hb2 i0 i1 i2
      go_loopw [38] (fun i wr => ∃ n : Nat, i = .int .i64 n ∧ (n : Int) ≤ N ∧ Hid (Chk wr b (run f s n k)) ∧ Hid (Kp [b] w wr)) (fun i _ => ((N : Int) - intOf i).toNat)
      case atStart => exact ⟨0, rfl, by omega, (by show Chk _ _ _; rw [run_zero]; exact HH.out), Kp.refl _ _⟩
      case round =>
        obtain ⟨n, rfl, hn, HB, HK⟩ := hrel
        by_cases hlt : (n : Int) < N
        · have hc := HB.out.cell (i := s + n) (by omega)
          have hf := HB.out.frozen (s + n)
          generalize run f s n k (s + n) = old at *
          go_wp2
          go_roundw
          case rel =>
            refine ⟨n + 1, by go_num, by omega, ?_, ?_⟩
            · show Chk _ _ _
              rw [run_succ]
              exact HB.out.put (s + n) k k0 k1
            · exact HK.out.setCell (p := ⟨b, s + n, none⟩) (.inl (by simp)) _
          case measure => simp [intOf] <;> omega
        · have hne : n = N := by omega
          subst hne
          go_wp2
          go_ret
          exact ⟨ret_bool HO.out.symm, by rw [HS.out]; exact HB.out, HK.out⟩
    · have HO : Hid (okFill lo hi k = false) := decide_eq_false (fun h => hk h.2)
      have HS : Hid (fillS f lo hi k = f) := by
        show _ = _
        rw [fillS, HO.out]
        rfl
      have hb2 := decide_eq_false hk
      clear hk h
      obtain ⟨i0, i1, i2⟩ := hi1
      have d1 : decide (lo < 0) = false := decide_eq_false (by omega)
      have d2 : decide (128 ≤ hi) = false := decide_eq_false (by omega)
      have d3 : decide (hi < lo) = false := decide_eq_false (by omega)
      go_enter Try.func25, Try.ntmps25
      go_wp2_with (go_at_call 33; refine (chunk_may _ _).mono ?_; rintro e w1 ⟨rfl, rfl⟩)
      go_ret
      exact ⟨ret_bool HO.out.symm, by rw [HS.out]; exact HH.out, Kp.refl _ _⟩
  · have HO : Hid (okFill lo hi k = false) := decide_eq_false (fun h => hi1 h.1)
    have HS : Hid (fillS f lo hi k = f) := by
      show _ = _
      rw [fillS, HO.out]
      rfl
    have hd : (decide (lo < 0) = true) ∨ (decide (lo < 0) = false ∧ decide (128 ≤ hi) = true) ∨ (decide (lo < 0) = false ∧ decide (128 ≤ hi) = false ∧ decide (hi < lo) = true) := by
      simp only [decide_eq_true_eq, decide_eq_false_iff_not]
      omega
    clear hi1 h
    rcases hd with d1 | ⟨d1, d2⟩ | ⟨d1, d2, d3⟩
    all_goals
      go_enter Try.func25, Try.ntmps25
      go_wp2
      go_ret
      exact ⟨ret_bool HO.out.symm, by rw [HS.out]; exact HH.out, Kp.refl _ _⟩
end Go.Proofs.Ytnppdhaphnemfaa
