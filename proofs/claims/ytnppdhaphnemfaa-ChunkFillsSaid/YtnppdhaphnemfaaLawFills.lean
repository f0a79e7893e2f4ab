/- ChunkFills: to fill layers is to set each of their cells. -/
import Derived.Test.YtnppdhaphnemfaaAwake06
import Derived.Test.YtnppdhaphnemfaaPlays06
import Derived.Test.YtnppdhaphnemfaaChkCopy
import Derived.Test.YtnppdhaphnemfaaChkDiff
namespace Go.Proofs.Ytnppdhaphnemfaa
open Go.RowKit
set_option linter.unusedVariables false
set_option linter.unusedSimpArgs false

theorem set_run (F : Nat → Int) (s m : Nat) (k : Int) (h : okSet ((s : Int) + m) k = true) : setS (run F s m k) ((s : Int) + m) k = run F s (m + 1) k := by
  rw [setS, h, if_pos rfl, run_succ, show ((s : Int) + m).toNat = s + m from by omega]
theorem diff_self (f : Nat → Int) : diffTo f f 32768 = [] := diffTo_same f f 32768 (fun _ _ => rfl)

set_option maxRecDepth 20000 in
set_option maxHeartbeats 4000000 in
theorem ChunkFills_walk (w : World) (A : Option Addr) (n c : Nat) (xs : List Int) (h : RowsSl w 4 A n c xs) (lo : Int) (hlo : I64 lo) (hi : Int) (hhi : I64 hi) (k : Int) (hk : I64 k) :
    Calls Try.prog 8 #[.slice A n c, .int .i64 lo, .int .i64 hi, .int .i64 k] w fun e w' => e = .returned (.bool true) ∧ Kp [] w w' := by
  have hn : (n : Int) ≤ 140737488351232 := by have := h.small; omega
  have HP := Lib.hid (fun (w1 : World) (k : Kp [] w w1) => plays06 w1 A n c w.heap.size xs h.len (h.rd.kp0 k) k.size hn h.i64)
  clear h
  obtain ⟨l0, l1⟩ := hlo
  obtain ⟨h0, h1⟩ := hhi
  obtain ⟨k0, k1⟩ := hk
  obtain ⟨F, hF⟩ : ∃ F, F = play06 xs (min n 400) := ⟨_, rfl⟩
  rw [← hF] at HP
  clear hF
  by_cases hok : (0 ≤ lo ∧ hi < 128 ∧ lo ≤ hi) ∧ (0 ≤ k ∧ k ≤ 16)
  · have HO : Hid (okFill lo hi k = true) := decide_eq_true hok
    have HFS : Hid (fillS F lo hi k = run F (lo * 256).toNat ((hi - lo + 1) * 256).toNat k) := if_pos HO.out
    obtain ⟨⟨a0, a1, a2⟩, b0, b1⟩ := hok
    obtain ⟨p, rfl⟩ := Int.eq_ofNat_of_zero_le a0
    obtain ⟨q, rfl⟩ := Int.eq_ofNat_of_zero_le (show 0 ≤ hi by omega)
    obtain ⟨m, rfl⟩ : ∃ m, q = p + m := ⟨q - p, by omega⟩
    rw [show ((p : Int) * 256).toNat = p * 256 from by omega, show ((((p + m : Nat) : Int) - (p : Int) + 1) * 256).toNat = (m + 1) * 256 from by omega] at HFS
    rw [show ((p + m : Nat) : Int) = (p : Int) + (m : Int) from by omega] at *
    have d1 : decide ((p : Int) < 0) = false := decide_eq_false (by omega)
    have d2 : decide (128 ≤ (p : Int) + (m : Int)) = false := decide_eq_false (by omega)
    have d3 : decide ((p : Int) + (m : Int) < (p : Int)) = false := decide_eq_false (by omega)
    have d4 : decide (k < 0) = false := decide_eq_false (by omega)
    have d5 : decide (16 < k) = false := decide_eq_false (by omega)
    go_enter Try.func8, Try.ntmps8
    go_wp2_with (first | (go_at_call 11; refine (awake _).mono ?_; rintro e w1 ⟨rfl, hk1⟩; have HK1 := Lib.hid hk1; clear hk1) | (go_at_call 12; refine (HP.out w1 HK1.out).mono ?_; rintro e w2 ⟨b, g, rfl, hb, hg, hc2, hr2, hk2⟩; have HC2 := Lib.hid hc2; have HK2 := Lib.hid (HK1.out.then hk2); clear hc2 hr2 hk2))
    refine (chunk_Copy b F w2 HC2.out).mono ?_
    rintro e w3 ⟨d, rfl, hd, hcd3, hk3⟩
    have hlt2 := HC2.out.lt
    have hbw := HK1.out.size
    have HC3 := Lib.hid (HC2.out.kp0 hk3)
    have HD3 := Lib.hid hcd3
    have HK3 := Lib.hid (HK2.out.then hk3)
    clear hcd3 hk3 HC2 HK2
    go_wp2_with fail
    refine (chunk_Fill b F _ _ k w3 HC3.out).mono ?_
    rintro e w4 ⟨rfl, hc4, hk4⟩
    rw [HO.out]
    rw [HFS.out] at hc4
    have HC4 := Lib.hid hc4
    have HD4 := Lib.hid (HD3.out.kp hk4 (by simp; omega))
    have HK4 := Lib.hid (HK3.out.trans hk4 (fun x hx hlt => by simp at hx; omega))
    clear hc4 hk4 HC3 HD3 HK3
    by_cases hw8 : (8 : Int) < m
    · have d6 : decide ((8 : Int) < (p : Int) + (m : Int) - (p : Int)) = true := decide_eq_true (by omega)
      go_wp2
      go_ret
      exact ⟨rfl, HK4.out⟩
    · have d6 : decide ((8 : Int) < (p : Int) + (m : Int) - (p : Int)) = false := decide_eq_false (by omega)
      go_wp2_with fail
      clear d1 d2 d3 d4 d5 d6
      have hdw : b ≠ d := by omega
      go_loopw [15] (fun i wr => ∃ j : Nat, i = .int .i64 ((p : Int) * 256 + j) ∧ (j : Int) ≤ ((m : Int) + 1) * 256 ∧ Hid (Chk wr d (run F (p * 256) j k)) ∧ Hid (Kp [d] w4 wr)) (fun i _ => (((p : Int) + (m : Int) + 1) * 256 - intOf i).toNat)
      case atStart => exact ⟨0, by go_num, by omega, (by show Chk _ _ _; rw [run_zero]; exact HD4.out), Kp.refl _ _⟩
      case round =>
        obtain ⟨j, rfl, hj, HB, HK⟩ := hrel
        by_cases hlt : (j : Int) < ((m : Int) + 1) * 256
        · have dl : decide ((p : Int) * 256 + j < ((p : Int) + (m : Int) + 1) * 256) = true := decide_eq_true (by omega)
          have hos : okSet ((p : Int) * 256 + j) k = true := decide_eq_true (by omega)
          have HOS := Lib.hid hos
          have HSR : Hid (setS (run F (p * 256) j k) ((p : Int) * 256 + j) k = run F (p * 256) (j + 1) k) := by
            have := set_run F (p * 256) j k (by rw [show ((p * 256 : Nat) : Int) = (p : Int) * 256 from by omega]; exact hos)
            rw [show ((p * 256 : Nat) : Int) = (p : Int) * 256 from by omega] at this
            exact this
          clear hos
          go_wp2_with (go_at_call 16; refine (chunk_Set d _ _ k _ HB.out).mono ?_; rintro e w6 ⟨rfl, hc6, hk6⟩; rw [HSR.out] at hc6; rw [HOS.out])
          go_roundw
          case rel => exact ⟨j + 1, by go_num, by omega, hc6, HK.out.same hk6⟩
          case measure => simp [intOf] <;> omega
        · have hne : j = (m + 1) * 256 := by omega
          have dl : decide ((p : Int) * 256 + j < ((p : Int) + (m : Int) + 1) * 256) = false := decide_eq_false (by omega)
          have HNE := Lib.hid hne
          clear hne hlt
          have HCW := Lib.hid (HC4.out.kp HK.out (by simp; exact hdw))
          have HDS := Lib.hid (diff_self (run F (p * 256) ((m + 1) * 256) k))
          rw [HNE.out] at HB
          go_wp2_with fail
          refine (chunk_Diff b d _ _ _ HCW.out HB.out).mono ?_
          rintro e w6 ⟨v6, rfl, hown6, hk6⟩
          rw [HDS.out] at hown6
          obtain ⟨A6, c6, rfl, _, _, _⟩ := own_read hown6
          clear hown6
          go_wp2
          go_ret
          exact ⟨rfl, HK4.out.trans (HK.out.then hk6) (fun x hx hlt => by simp at hx; omega)⟩
  · have HO : Hid (okFill lo hi k = false) := decide_eq_false hok
    have HFS : Hid (fillS F lo hi k = F) := by
      show _ = _
      rw [fillS, HO.out]
      rfl
    have HDS := Lib.hid (diff_self F)
    have hd : (decide (lo < 0) = true) ∨ (decide (lo < 0) = false ∧ decide (128 ≤ hi) = true) ∨ (decide (lo < 0) = false ∧ decide (128 ≤ hi) = false ∧ decide (hi < lo) = true) ∨ (decide (lo < 0) = false ∧ decide (128 ≤ hi) = false ∧ decide (hi < lo) = false ∧ decide (k < 0) = true) ∨ (decide (lo < 0) = false ∧ decide (128 ≤ hi) = false ∧ decide (hi < lo) = false ∧ decide (k < 0) = false ∧ decide (16 < k) = true) := by
      simp only [decide_eq_true_eq, decide_eq_false_iff_not]
      omega
    clear hok
    rcases hd with d1 | ⟨d1, d2⟩ | ⟨d1, d2, d3⟩ | ⟨d1, d2, d3, d4⟩ | ⟨d1, d2, d3, d4, d5⟩
    all_goals
      go_enter Try.func8, Try.ntmps8
      go_wp2_with (first | (go_at_call 11; refine (awake _).mono ?_; rintro e w1 ⟨rfl, hk1⟩; have HK1 := Lib.hid hk1; clear hk1) | (go_at_call 12; refine (HP.out w1 HK1.out).mono ?_; rintro e w2 ⟨b, g, rfl, hb, hg, hc2, hr2, hk2⟩; have HC2 := Lib.hid hc2; have HK2 := Lib.hid (HK1.out.then hk2); clear hc2 hr2 hk2))
      refine (chunk_Copy b F w2 HC2.out).mono ?_
      rintro e w3 ⟨d, rfl, hd, hcd3, hk3⟩
      have hlt2 := HC2.out.lt
      have hbw := HK1.out.size
      have HC3 := Lib.hid (HC2.out.kp0 hk3)
      have HD3 := Lib.hid hcd3
      have HK3 := Lib.hid (HK2.out.then hk3)
      clear hcd3 hk3 HC2 HK2
      go_wp2_with fail
      refine (chunk_Fill b F _ _ k w3 HC3.out).mono ?_
      rintro e w4 ⟨rfl, hc4, hk4⟩
      rw [HO.out]
      rw [HFS.out] at hc4
      have HC4 := Lib.hid hc4
      have HD4 := Lib.hid (HD3.out.kp hk4 (by simp; omega))
      have HK4 := Lib.hid (HK3.out.trans hk4 (fun x hx hlt => by simp at hx; omega))
      clear hc4 hk4 HC3 HD3 HK3
      go_wp2_with fail
      refine (chunk_Diff b d F F w4 HC4.out HD4.out).mono ?_
      rintro e w5 ⟨v5, rfl, hown5, hk5⟩
      rw [HDS.out] at hown5
      obtain ⟨A5, c5, rfl, _, _, _⟩ := own_read hown5
      clear hown5
      go_wp2
      go_ret
      exact ⟨rfl, HK4.out.then hk5⟩
end Go.Proofs.Ytnppdhaphnemfaa
