/- The walk of the reference's Count. -/
import Derived.Test.YthjbapjmlkbeoaaRef04Count
namespace Go.Proofs.Ythjbapjmlkbeoaa
open Go.RowKit
set_option linter.unusedVariables false
set_option linter.unusedSimpArgs false

theorem bad_far (ax ay az bx by' bz : Int) : (badS ax bx || badS ay by' || badS az bz) = (aboveS ax ay az bx by' bz || farS ax ay az || farS bx by' bz) := by
  rw [Bool.eq_iff_iff]
  simp only [badS, aboveS, farS, Bool.or_eq_true, decide_eq_true_eq]
  omega

theorem upM_top {s : Int} (hs : 1 ≤ s) : upM 2147483648 s = 2147483648 := by
  unfold upM
  omega
theorem upM_small {n s : Int} (hn : 1 ≤ n) (hs : 1 ≤ s) (h1 : s < 2147483648) (h2 : n * s < 2147483648) : upM n s = n * s := by
  unfold upM
  rw [show min s 2147483648 = s by omega]
  omega
theorem upM_big {n s : Int} (hn : 1 ≤ n) (hs : 1 ≤ s) (h : 2147483648 ≤ s ∨ 2147483648 ≤ n * s) : upM n s = 2147483648 := by
  unfold upM
  by_cases h1 : 2147483648 ≤ s
  · rw [show min s 2147483648 = 2147483648 by omega]
    omega
  · rw [show min s 2147483648 = s by omega]
    have : 2147483648 ≤ n * s := by
      rcases h with h | h
      · exact absurd h h1
      · exact h
    omega

def sideS (ax ay az bx by' bz : Int) (k : Nat) : Int := if k = 0 then bx - ax + 1 else if k = 1 then by' - ay + 1 else bz - az + 1
theorem partS_succ (ax ay az bx by' bz : Int) (k : Nat) (hk : k < 3) : partS ax ay az bx by' bz (k + 1) = upM (partS ax ay az bx by' bz k) (sideS ax ay az bx by' bz k) := by
  have hk3 : k = 0 ∨ k = 1 ∨ k = 2 := by omega
  rcases hk3 with rfl | rfl | rfl <;> rfl
theorem count_top {ax ay az bx by' bz : Int} (h : goodTo ax ay az bx by' bz 3) {k : Nat} (hk : k < 3) (ht : partS ax ay az bx by' bz (k + 1) = 2147483648) : countS ax ay az bx by' bz = 2147483648 := by
  have h0 := badS_false.1 (h.1 (by omega))
  have h1 := badS_false.1 (h.2.1 (by omega))
  have h2 := badS_false.1 (h.2.2 (by omega))
  rw [countS, h.1 (by omega), h.2.1 (by omega), h.2.2 (by omega)]
  show upM (upM (upM 1 (bx - ax + 1)) (by' - ay + 1)) (bz - az + 1) = _
  have hk3 : k = 0 ∨ k = 1 ∨ k = 2 := by omega
  rcases hk3 with rfl | rfl | rfl
  · have ht' : upM 1 (bx - ax + 1) = 2147483648 := ht
    rw [ht', upM_top (by omega), upM_top (by omega)]
  · have ht' : upM (upM 1 (bx - ax + 1)) (by' - ay + 1) = 2147483648 := ht
    rw [ht', upM_top (by omega)]
  · exact ht

theorem goodTo_le {ax ay az bx by' bz : Int} (h : goodTo ax ay az bx by' bz 3) {k : Nat} (hk : k ≤ 3) : goodTo ax ay az bx by' bz k :=
  ⟨fun _ => h.1 (by omega), fun _ => h.2.1 (by omega), fun _ => h.2.2 (by omega)⟩

set_option maxRecDepth 20000 in
set_option maxHeartbeats 8000000 in
theorem ref_Count (ax ay az bx by' bz : Int) (w : World) :
    Calls Try.prog 25 #[boxV ax ay az bx by' bz] w fun e w' => e = .returned (.int .i64 (countS ax ay az bx by' bz)) ∧ Kp [] w w' := by
  have HR := Lib.hid (bad_far ax ay az bx by' bz)
  have HAb := Lib.hid (ref_above ax ay az bx by' bz)
  have HA := Lib.hid (ref_far ax ay az)
  have HB := Lib.hid (ref_far bx by' bz)
  have HZ : Hid ((badS ax bx || badS ay by' || badS az bz) = true → countS ax ay az bx by' bz = 0) := by
    show _ → _
    intro h
    rw [countS, h]
    rfl
  have HG : Hid ((badS ax bx || badS ay by' || badS az bz) = false → goodTo ax ay az bx by' bz 3) := by
    show _ → _
    intro h
    simp only [Bool.or_eq_false_iff] at h
    exact ⟨fun _ => h.1.1, fun _ => h.1.2, fun _ => h.2⟩
  obtain ⟨p, hp⟩ : ∃ p, aboveS ax ay az bx by' bz = p := ⟨_, rfl⟩
  obtain ⟨q, hq⟩ : ∃ q, farS ax ay az = q := ⟨_, rfl⟩
  obtain ⟨s, hs⟩ : ∃ s, farS bx by' bz = s := ⟨_, rfl⟩
  rw [hp] at HAb
  rw [hq] at HA
  rw [hs] at HB
  rw [hp, hq, hs] at HR
  clear hp hq hs
  unfold boxV at *
  cases p
  all_goals cases q
  all_goals cases s
  all_goals
    go_enter Try.func25, Try.ntmps25
    go_wp2_with fail
    refine (HAb.out _).mono ?_
    rintro e w1 ⟨rfl, k1⟩
    obtain ⟨b0, b1, b2, b3, b4, b5⟩ := box6 k1 (by simp)
    have K1 := Lib.hid k1
    clear k1
    go_wp2_with fail
    refine (HA.out _).mono ?_
    rintro e w2 ⟨rfl, k2⟩
    clear b0 b1 b2 b3 b4 b5
    obtain ⟨b0, b1, b2, b3, b4, b5⟩ := box6 (K1.out.then k2) (by simp)
    have K2 := Lib.hid (K1.out.then k2)
    clear k2
    go_wp2_with fail
    refine (HB.out _).mono ?_
    rintro e w3 ⟨rfl, k3⟩
    clear b0 b1 b2 b3 b4 b5
    obtain ⟨b0, b1, b2, b3, b4, b5⟩ := box6 (K2.out.then k3) (by simp)
    have K3 : Hid (Kp [] w w3) := ((Kp.refl [] w).alloc _).then (K2.out.then k3)
    clear k3 K1 K2
  all_goals try
    (go_wp2_with fail
     go_ret
     exact ⟨ret_int (HZ.out (by rw [HR.out]; rfl)).symm, K3.out⟩)
  have hg := HG.out (by rw [HR.out]; rfl)
  have h0 := badS_false.1 (hg.1 (by omega))
  have h1 := badS_false.1 (hg.2.1 (by omega))
  have h2 := badS_false.1 (hg.2.2 (by omega))
  have HGG := Lib.hid hg
  clear hg HZ HG HR
  obtain ⟨h01, h02, h03⟩ := h0
  obtain ⟨h11, h12, h13⟩ := h1
  obtain ⟨h21, h22, h23⟩ := h2
  go_wp2_with fail
  go_loop [6, 8] (fun n i => ∃ k : Nat, k ≤ 3 ∧ i = .int .i64 k ∧ n = .int .i64 (partS ax ay az bx by' bz k) ∧ (k < 3 → partS ax ay az bx by' bz k < 2147483648)) (fun _ i => (3 - intOf i).toNat)
  case atStart => exact ⟨0, by omega, rfl, rfl, fun _ => by show (1 : Int) < _; omega⟩
  case round =>
    obtain ⟨k, hk, rfl, rfl, hm⟩ := hrel
    have hk3 : k = 0 ∨ k = 1 ∨ k = 2 ∨ k = 3 := by omega
    clear hk
    rcases hk3 with rfl | rfl | rfl | rfl
    · obtain ⟨n, hn⟩ : ∃ n, partS ax ay az bx by' bz 0 = n := ⟨_, rfl⟩
      have hbd := partS_bd (goodTo_le HGG.out (k := 0) (by omega))
      have HS := Lib.hid (partS_succ ax ay az bx by' bz 0 (by omega))
      rw [hn] at hbd HS hm ⊢
      have hmm := hm (by omega)
      clear hm hn
      obtain ⟨hbd1, _⟩ := hbd
      by_cases hs : 2147483648 ≤ bx - ax + 1
      · have HE := Lib.hid (count_top HGG.out (k := 0) (by omega) (HS.out.trans (upM_big hbd1 (by show 1 ≤ bx - ax + 1; omega) (.inl hs))))
        go_wp2
        go_ret
        exact ⟨ret_int HE.out.symm, K3.out.alloc _⟩
      · have p0 : 0 ≤ n * (bx - ax + 1) := Int.mul_nonneg (by omega) (by omega)
        have p1 : n * (bx - ax + 1) ≤ 2147483648 * 2147483648 := Int.mul_le_mul (by omega) (by omega) (by omega) (by omega)
        by_cases ht : 2147483648 ≤ n * (bx - ax + 1)
        · have HE := Lib.hid (count_top HGG.out (k := 0) (by omega) (HS.out.trans (upM_big hbd1 (by show 1 ≤ bx - ax + 1; omega) (.inr ht))))
          have hs1 : decide (2147483648 ≤ bx - ax + 1) = false := by simpa using hs
          go_wp2
          go_ret
          exact ⟨ret_int HE.out.symm, K3.out.alloc _⟩
        · have HE : Hid (partS ax ay az bx by' bz 1 = n * (bx - ax + 1)) := HS.out.trans (upM_small hbd1 (by show 1 ≤ bx - ax + 1; omega) (by show bx - ax + 1 < _; omega) (by show n * (bx - ax + 1) < _; omega))
          have hs1 : decide (2147483648 ≤ bx - ax + 1) = false := by simpa using hs
          have ht1 : decide (2147483648 ≤ n * (bx - ax + 1)) = false := by simpa using ht
          go_wp2
          go_round
          case rel => exact ⟨1, by omega, by go_num, by rw [HE.out], fun _ => by rw [HE.out]; omega⟩
          case measure => simp [intOf]
    · obtain ⟨n, hn⟩ : ∃ n, partS ax ay az bx by' bz 1 = n := ⟨_, rfl⟩
      have hbd := partS_bd (goodTo_le HGG.out (k := 1) (by omega))
      have HS := Lib.hid (partS_succ ax ay az bx by' bz 1 (by omega))
      rw [hn] at hbd HS hm ⊢
      have hmm := hm (by omega)
      clear hm hn
      obtain ⟨hbd1, _⟩ := hbd
      by_cases hs : 2147483648 ≤ by' - ay + 1
      · have HE := Lib.hid (count_top HGG.out (k := 1) (by omega) (HS.out.trans (upM_big hbd1 (by show 1 ≤ by' - ay + 1; omega) (.inl hs))))
        go_wp2
        go_ret
        exact ⟨ret_int HE.out.symm, K3.out.alloc _⟩
      · have p0 : 0 ≤ n * (by' - ay + 1) := Int.mul_nonneg (by omega) (by omega)
        have p1 : n * (by' - ay + 1) ≤ 2147483648 * 2147483648 := Int.mul_le_mul (by omega) (by omega) (by omega) (by omega)
        by_cases ht : 2147483648 ≤ n * (by' - ay + 1)
        · have HE := Lib.hid (count_top HGG.out (k := 1) (by omega) (HS.out.trans (upM_big hbd1 (by show 1 ≤ by' - ay + 1; omega) (.inr ht))))
          have hs1 : decide (2147483648 ≤ by' - ay + 1) = false := by simpa using hs
          go_wp2
          go_ret
          exact ⟨ret_int HE.out.symm, K3.out.alloc _⟩
        · have HE : Hid (partS ax ay az bx by' bz 2 = n * (by' - ay + 1)) := HS.out.trans (upM_small hbd1 (by show 1 ≤ by' - ay + 1; omega) (by show by' - ay + 1 < _; omega) (by show n * (by' - ay + 1) < _; omega))
          have hs1 : decide (2147483648 ≤ by' - ay + 1) = false := by simpa using hs
          have ht1 : decide (2147483648 ≤ n * (by' - ay + 1)) = false := by simpa using ht
          go_wp2
          go_round
          case rel => exact ⟨2, by omega, by go_num, by rw [HE.out], fun _ => by rw [HE.out]; omega⟩
          case measure => simp [intOf]
    · obtain ⟨n, hn⟩ : ∃ n, partS ax ay az bx by' bz 2 = n := ⟨_, rfl⟩
      have hbd := partS_bd (goodTo_le HGG.out (k := 2) (by omega))
      have HS := Lib.hid (partS_succ ax ay az bx by' bz 2 (by omega))
      rw [hn] at hbd HS hm ⊢
      have hmm := hm (by omega)
      clear hm hn
      obtain ⟨hbd1, _⟩ := hbd
      by_cases hs : 2147483648 ≤ bz - az + 1
      · have HE := Lib.hid (count_top HGG.out (k := 2) (by omega) (HS.out.trans (upM_big hbd1 (by show 1 ≤ bz - az + 1; omega) (.inl hs))))
        go_wp2
        go_ret
        exact ⟨ret_int HE.out.symm, K3.out.alloc _⟩
      · have p0 : 0 ≤ n * (bz - az + 1) := Int.mul_nonneg (by omega) (by omega)
        have p1 : n * (bz - az + 1) ≤ 2147483648 * 2147483648 := Int.mul_le_mul (by omega) (by omega) (by omega) (by omega)
        by_cases ht : 2147483648 ≤ n * (bz - az + 1)
        · have HE := Lib.hid (count_top HGG.out (k := 2) (by omega) (HS.out.trans (upM_big hbd1 (by show 1 ≤ bz - az + 1; omega) (.inr ht))))
          have hs1 : decide (2147483648 ≤ bz - az + 1) = false := by simpa using hs
          go_wp2
          go_ret
          exact ⟨ret_int HE.out.symm, K3.out.alloc _⟩
        · have HE : Hid (partS ax ay az bx by' bz 3 = n * (bz - az + 1)) := HS.out.trans (upM_small hbd1 (by show 1 ≤ bz - az + 1; omega) (by show bz - az + 1 < _; omega) (by show n * (bz - az + 1) < _; omega))
          have hs1 : decide (2147483648 ≤ bz - az + 1) = false := by simpa using hs
          have ht1 : decide (2147483648 ≤ n * (bz - az + 1)) = false := by simpa using ht
          go_wp2
          go_round
          case rel => exact ⟨3, by omega, by go_num, by rw [HE.out], fun _ => by rw [HE.out]; omega⟩
          case measure => simp [intOf]
    · have HE : Hid (partS ax ay az bx by' bz 3 = countS ax ay az bx by' bz) := by
        show _ = _
        rw [countS, HGG.out.1 (by omega), HGG.out.2.1 (by omega), HGG.out.2.2 (by omega)]
        rfl
      clear hm
      go_wp2
      go_ret
      exact ⟨ret_int HE.out, K3.out.alloc _⟩
end Go.Proofs.Ythjbapjmlkbeoaa
