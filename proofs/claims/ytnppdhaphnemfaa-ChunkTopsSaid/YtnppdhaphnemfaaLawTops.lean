/- ChunkTops: above the top of a column there is nothing but air and None. -/
import Derived.Test.YtnppdhaphnemfaaAwake06
import Derived.Test.YtnppdhaphnemfaaPlays06
namespace Go.Proofs.Ytnppdhaphnemfaa
open Go.RowKit
set_option linter.unusedVariables false
set_option linter.unusedSimpArgs false

theorem topFrom_above (f : Nat → Int) (x z : Nat) : ∀ n y : Nat, topFrom f x z n < (y : Int) → y < n → solid (f (y * 256 + z * 16 + x)) = false
  | 0, y, _, h => by omega
  | n + 1, y, h1, h2 => by
    by_cases hs : solid (f (n * 256 + z * 16 + x)) = true
    · have e : topFrom f x z (n + 1) = (n : Int) := if_pos hs
      rw [e] at h1
      have h3 := Int.ofNat_lt.1 h1
      exact absurd (Nat.lt_of_lt_of_le h2 h3) (Nat.lt_irrefl _)
    · have e : topFrom f x z (n + 1) = topFrom f x z n := if_neg hs
      rw [e] at h1
      rcases Nat.lt_or_ge y n with h3 | h3
      · exact topFrom_above f x z n y h1 h3
      · obtain rfl : y = n := by omega
        simpa using hs
theorem topFrom_at (f : Nat → Int) (x z : Nat) : ∀ n : Nat, 0 ≤ topFrom f x z n → solid (f ((topFrom f x z n).toNat * 256 + z * 16 + x)) = true
  | 0, h => by simp [topFrom] at h
  | n + 1, h => by
    rw [topFrom] at h ⊢
    split
    · rename_i hs
      rw [Int.toNat_natCast]
      exact hs
    · rename_i hs
      rw [if_neg hs] at h
      exact topFrom_at f x z n h

set_option maxRecDepth 20000 in
set_option maxHeartbeats 4000000 in
theorem ChunkTops_walk (w : World) (A : Option Addr) (n c : Nat) (xs : List Int) (h : RowsSl w 4 A n c xs) (x : Int) (hx : I64 x) (z : Int) (hz : I64 z) :
    Calls Try.prog 3 #[.slice A n c, .int .i64 x, .int .i64 z] w fun e w' => e = .returned (.bool true) ∧ Kp [] w w' := by
  have hn : (n : Int) ≤ 140737488351232 := by have := h.small; omega
  have HP := Lib.hid (fun (w1 : World) (k : Kp [] w w1) => plays06 w1 A n c w.heap.size xs h.len (h.rd.kp0 k) k.size hn h.i64)
  clear h
  obtain ⟨x0, x1⟩ := hx
  obtain ⟨z0, z1⟩ := hz
  by_cases hin : 0 ≤ x ∧ x < 16 ∧ 0 ≤ z ∧ z < 16
  · obtain ⟨i0, i1, i2, i3⟩ := hin
    have d1 : decide (x < 0) = false := decide_eq_false (by omega)
    have d2 : decide (15 < x) = false := decide_eq_false (by omega)
    have d3 : decide (z < 0) = false := decide_eq_false (by omega)
    have d4 : decide (15 < z) = false := decide_eq_false (by omega)
    obtain ⟨p, rfl⟩ := Int.eq_ofNat_of_zero_le i0
    obtain ⟨q, rfl⟩ := Int.eq_ofNat_of_zero_le i2
    have HT : Hid (∀ f : Nat → Int, topS f p q = topFrom f p q 128) := fun f => by
      rw [topS, if_pos (by omega), Int.toNat_natCast, Int.toNat_natCast]
    go_enter Try.func3, Try.ntmps3
    go_wp2_with (first | (go_at_call 11; refine (awake _).mono ?_; rintro e w1 ⟨rfl, hk1⟩; have HK1 := Lib.hid hk1; clear hk1) | (go_at_call 12; refine (HP.out w1 HK1.out).mono ?_; rintro e w2 ⟨b, g, rfl, hb, hg, hc2, hr2, hk2⟩; have HC2 := Lib.hid hc2; have HK2 := Lib.hid (HK1.out.then hk2); clear hc2 hr2 hk2))
    refine (chunk_Top b _ p q _ HC2.out).mono ?_
    rintro e w3 ⟨rfl, rfl⟩
    rw [HT.out]
    obtain ⟨F, hF⟩ : ∃ F, F = play06 xs (min n 400) := ⟨_, rfl⟩
    rw [← hF] at HC2 ⊢
    clear hF HT HP
    obtain ⟨r0, r1⟩ := topFrom_range F p q 128
    have HAB : Hid (∀ y : Nat, topFrom F p q 128 < (y : Int) → y < 128 → solid (F (y * 256 + q * 16 + p)) = false) := topFrom_above F p q 128
    have HAT : Hid (0 ≤ topFrom F p q 128 → solid (F ((topFrom F p q 128).toNat * 256 + q * 16 + p)) = true) := topFrom_at F p q 128
    generalize topFrom F p q 128 = t at *
    have hq1 : (q : Int) * 16 + p < 256 := by omega
    have d5 : decide (t < -1) = false := decide_eq_false (by omega)
    have d6 : decide (128 ≤ t) = false := decide_eq_false (by omega)
    go_wp2_with fail
    clear d1 d2 d3 d4 d5 d6
    go_loop [12] (fun i => ∃ y : Int, i = .int .i64 y ∧ t < y ∧ y ≤ 128) (fun i => (128 - intOf i).toNat)
    case atStart => exact ⟨t + 1, by go_num, by omega, by omega⟩
    case round =>
      obtain ⟨y, rfl, hy0, hy1⟩ := hrel
      by_cases hlt : y < 128
      · obtain ⟨m, rfl⟩ := Int.eq_ofNat_of_zero_le (show 0 ≤ y by omega)
        have hG : getS F ((m : Int) * 256 + (q : Int) * 16 + p) = F (m * 256 + q * 16 + p) := by
          rw [getS, if_pos (by omega), show ((m : Int) * 256 + (q : Int) * 16 + p).toNat = m * 256 + q * 16 + p from by omega]
        have hs := HAB.out m (by omega) (by omega)
        have hv : F (m * 256 + q * 16 + p) = 0 ∨ F (m * 256 + q * 16 + p) = 16 := by
          unfold solid at hs
          simp at hs
          omega
        generalize F (m * 256 + q * 16 + p) = v at *
        have HG := Lib.hid hG
        clear hG hs
        rcases hv with rfl | rfl
        all_goals
          go_wp2_with (go_at_call 14; refine (chunk_Get b F _ _ HC2.out).mono ?_; rintro e w4 ⟨rfl, rfl⟩; rw [HG.out])
          go_round
          case rel => exact ⟨(m : Int) + 1, by go_num, by omega, by omega⟩
          case measure => simp [intOf] <;> omega
      · have hne : y = 128 := by omega
        subst hne
        rcases Int.lt_or_le t 0 with ht | ht
        · obtain rfl : t = -1 := by omega
          obtain ⟨v, hv⟩ : ∃ v, getS F ((-1) * 256 + (q : Int) * 16 + p) = v := ⟨_, rfl⟩
          have HV := Lib.hid hv
          clear hv
          go_wp2_with (go_at_call 14; refine (chunk_Get b F _ _ HC2.out).mono ?_; rintro e w4 ⟨rfl, rfl⟩)
          go_ret
          exact ⟨rfl, HK2.out⟩
        · obtain ⟨m, rfl⟩ := Int.eq_ofNat_of_zero_le ht
          have hG : getS F ((m : Int) * 256 + (q : Int) * 16 + p) = F (m * 256 + q * 16 + p) := by
            rw [getS, if_pos (by omega), show ((m : Int) * 256 + (q : Int) * 16 + p).toNat = m * 256 + q * 16 + p from by omega]
          have hs := HAT.out ht
          rw [Int.toNat_natCast] at hs
          generalize F (m * 256 + q * 16 + p) = v at *
          have HG := Lib.hid hG
          unfold solid at hs
          rw [Bool.and_eq_true] at hs
          obtain ⟨s1, s2⟩ := hs
          have d7 : ((m : Int) == -1) = false := beq_eq_false_iff_ne.2 (by omega)
          clear hG
          go_wp2_with (go_at_call 14; refine (chunk_Get b F _ _ HC2.out).mono ?_; rintro e w4 ⟨rfl, rfl⟩; rw [HG.out])
          go_ret
          exact ⟨rfl, HK2.out⟩
  · have HT : Hid (∀ f : Nat → Int, topS f x z = -1) := fun f => by
      rw [topS, if_neg (by omega)]
    have hd : (decide (x < 0) = true) ∨ (decide (x < 0) = false ∧ decide (15 < x) = true) ∨ (decide (x < 0) = false ∧ decide (15 < x) = false ∧ decide (z < 0) = true) ∨ (decide (x < 0) = false ∧ decide (15 < x) = false ∧ decide (z < 0) = false ∧ decide (15 < z) = true) := by
      simp only [decide_eq_true_eq, decide_eq_false_iff_not]
      omega
    clear hin
    rcases hd with d1 | ⟨d1, d2⟩ | ⟨d1, d2, d3⟩ | ⟨d1, d2, d3, d4⟩
    all_goals
      go_enter Try.func3, Try.ntmps3
      go_wp2_with (first | (go_at_call 11; refine (awake _).mono ?_; rintro e w1 ⟨rfl, hk1⟩; have HK1 := Lib.hid hk1; clear hk1) | (go_at_call 12; refine (HP.out w1 HK1.out).mono ?_; rintro e w2 ⟨b, g, rfl, hb, hg, hc2, hr2, hk2⟩; have HC2 := Lib.hid hc2; have HK2 := Lib.hid (HK1.out.then hk2); clear hc2 hr2 hk2) | (go_at_call 13; refine (chunk_Top b _ x z _ HC2.out).mono ?_; rintro e w3 ⟨rfl, rfl⟩; rw [HT.out]))
      go_ret
      exact ⟨rfl, HK2.out⟩
end Go.Proofs.Ytnppdhaphnemfaa
