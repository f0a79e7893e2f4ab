/- The walks of the reference: above, far, Count, Inside. -/
import Derived.Test.YthjbapjmlkbeoaaRef04
namespace Go.Proofs.Ythjbapjmlkbeoaa
open Go.RowKit
set_option linter.unusedVariables false
set_option linter.unusedSimpArgs false

def aboveS (ax ay az bx by' bz : Int) : Bool := decide (bx < ax) || decide (by' < ay) || decide (bz < az)
theorem aboveS_false {ax ay az bx by' bz : Int} : aboveS ax ay az bx by' bz = false ↔ ax ≤ bx ∧ ay ≤ by' ∧ az ≤ bz := by
  unfold aboveS
  simp only [Bool.or_eq_false_iff, decide_eq_false_iff_not]
  omega
def farS (x y z : Int) : Bool := decide (x < -1099511627776 ∨ x > 1099511627776 ∨ y < -1099511627776 ∨ y > 1099511627776 ∨ z < -1099511627776 ∨ z > 1099511627776)

set_option maxRecDepth 20000 in
set_option maxHeartbeats 4000000 in
theorem ref_above (ax ay az bx by' bz : Int) (w : World) :
    Calls Try.prog 35 #[boxV ax ay az bx by' bz] w fun e w' => e = .returned (.bool (aboveS ax ay az bx by' bz)) ∧ Kp [] w w' := by
  unfold boxV
  obtain ⟨r, hr⟩ : ∃ r, aboveS ax ay az bx by' bz = r := ⟨_, rfl⟩
  have HR : Hid (aboveS ax ay az bx by' bz = r) := hr
  rw [hr]
  unfold aboveS at hr
  have h3 : bx < ax ∨ (ax ≤ bx ∧ by' < ay) ∨ (ax ≤ bx ∧ ay ≤ by' ∧ bz < az) ∨ (ax ≤ bx ∧ ay ≤ by' ∧ az ≤ bz) := by omega
  rcases h3 with h | ⟨h1, h⟩ | ⟨h1, h2, h⟩ | ⟨h1, h2, h4⟩
  · have e : r = true := by rw [← hr]; simp [h]
    subst e
    clear hr
    go_enter Try.func35, Try.ntmps35
    go_wp2
    go_ret
    exact ⟨rfl, (Kp.refl _ _).alloc _⟩
  · have e : r = true := by rw [← hr]; simp [h]
    subst e
    have t1 : decide (bx < ax) = false := by simpa using h1
    clear hr
    go_enter Try.func35, Try.ntmps35
    go_wp2
    go_ret
    exact ⟨rfl, (Kp.refl _ _).alloc _⟩
  · have e : r = true := by rw [← hr]; simp [h]
    subst e
    have t1 : decide (bx < ax) = false := by simpa using h1
    have t2 : decide (by' < ay) = false := by simpa using h2
    clear hr
    go_enter Try.func35, Try.ntmps35
    go_wp2
    go_ret
    exact ⟨rfl, (Kp.refl _ _).alloc _⟩
  · have t1 : decide (bx < ax) = false := by simpa using h1
    have t2 : decide (by' < ay) = false := by simpa using h2
    have t3 : decide (bz < az) = false := by simpa using h4
    have e : r = false := by rw [← hr, t1, t2, t3]; rfl
    subst e
    clear hr
    go_enter Try.func35, Try.ntmps35
    go_wp2
    go_ret
    exact ⟨rfl, (Kp.refl _ _).alloc _⟩

set_option maxRecDepth 20000 in
set_option maxHeartbeats 4000000 in
theorem ref_far (x y z : Int) (w : World) :
    Calls Try.prog 36 #[.agg #[.int .i64 x, .int .i64 y, .int .i64 z]] w fun e w' => e = .returned (.bool (farS x y z)) ∧ Kp [] w w' := by
  obtain ⟨r, hr⟩ : ∃ r, farS x y z = r := ⟨_, rfl⟩
  rw [hr]
  unfold farS at hr
  have h3 : x < -1099511627776 ∨ (-1099511627776 ≤ x ∧ 1099511627776 < x) ∨ ((-1099511627776 ≤ x ∧ x ≤ 1099511627776) ∧ y < -1099511627776) ∨ ((-1099511627776 ≤ x ∧ x ≤ 1099511627776) ∧ (-1099511627776 ≤ y ∧ 1099511627776 < y)) ∨
      (((-1099511627776 ≤ x ∧ x ≤ 1099511627776) ∧ -1099511627776 ≤ y ∧ y ≤ 1099511627776) ∧ z < -1099511627776) ∨ (((-1099511627776 ≤ x ∧ x ≤ 1099511627776) ∧ -1099511627776 ≤ y ∧ y ≤ 1099511627776) ∧ -1099511627776 ≤ z ∧ 1099511627776 < z) ∨
      (((-1099511627776 ≤ x ∧ x ≤ 1099511627776) ∧ -1099511627776 ≤ y ∧ y ≤ 1099511627776) ∧ -1099511627776 ≤ z ∧ z ≤ 1099511627776) := by omega
  rcases h3 with h | ⟨h1, h⟩ | ⟨⟨h1, h2⟩, h⟩ | ⟨⟨h1, h2⟩, h3, h⟩ | ⟨⟨⟨h1, h2⟩, h3, h4⟩, h⟩ | ⟨⟨⟨h1, h2⟩, h3, h4⟩, h5, h⟩ | ⟨⟨⟨h1, h2⟩, h3, h4⟩, h5, h6⟩
  · have e : r = true := by rw [← hr, decide_eq_true_eq]; omega
    subst e
    clear hr
    go_enter Try.func36, Try.ntmps36
    go_wp2
    go_ret
    exact ⟨rfl, (Kp.refl _ _).alloc _⟩
  · have e : r = true := by rw [← hr, decide_eq_true_eq]; omega
    subst e
    have t1 : decide (x < -1099511627776) = false := by simpa using h1
    clear hr
    go_enter Try.func36, Try.ntmps36
    go_wp2
    go_ret
    exact ⟨rfl, (Kp.refl _ _).alloc _⟩
  all_goals
    have t1 : decide (x < -1099511627776) = false := by simpa using h1
    have t2 : decide (1099511627776 < x) = false := by simpa using h2
  · have e : r = true := by rw [← hr, decide_eq_true_eq]; omega
    subst e
    clear hr
    go_enter Try.func36, Try.ntmps36
    go_wp2
    go_ret
    exact ⟨rfl, (Kp.refl _ _).alloc _⟩
  all_goals
    have t3 : decide (y < -1099511627776) = false := by simpa using h3
  · have e : r = true := by rw [← hr, decide_eq_true_eq]; omega
    subst e
    clear hr
    go_enter Try.func36, Try.ntmps36
    go_wp2
    go_ret
    exact ⟨rfl, (Kp.refl _ _).alloc _⟩
  all_goals
    have t4 : decide (1099511627776 < y) = false := by simpa using h4
  · have e : r = true := by rw [← hr, decide_eq_true_eq]; omega
    subst e
    clear hr
    go_enter Try.func36, Try.ntmps36
    go_wp2
    go_ret
    exact ⟨rfl, (Kp.refl _ _).alloc _⟩
  all_goals
    have t5 : decide (z < -1099511627776) = false := by simpa using h5
  · have e : r = true := by rw [← hr, decide_eq_true_eq]; omega
    subst e
    clear hr
    go_enter Try.func36, Try.ntmps36
    go_wp2
    go_ret
    exact ⟨rfl, (Kp.refl _ _).alloc _⟩
  · have t6 : decide (1099511627776 < z) = false := by simpa using h6
    have e : r = false := by rw [← hr, decide_eq_false_iff_not]; omega
    subst e
    clear hr
    go_enter Try.func36, Try.ntmps36
    go_wp2
    go_ret
    exact ⟨rfl, (Kp.refl _ _).alloc _⟩

/-- Inside, as the reference has it. -/
theorem inside_eq (ax ay az bx by' bz : Int) : insideS ax ay az bx by' bz = (inS ax ay az && inS bx by' bz && !aboveS ax ay az bx by' bz) := by
  unfold insideS
  cases ha : inS ax ay az
  · rfl
  · rw [Bool.true_and, Bool.true_and]
    have hA := inS_true.1 ha
    by_cases hAB : ax = bx ∧ ay = by' ∧ az = bz
    · obtain ⟨rfl, rfl, rfl⟩ := hAB
      rw [ha, aboveS_false.2 ⟨Int.le_refl _, Int.le_refl _, Int.le_refl _⟩]
      simp
    · have hd : (decide (ax = bx) && decide (ay = by') && decide (az = bz)) = false := by
        rw [Bool.eq_false_iff]
        intro h
        simp only [Bool.and_eq_true, decide_eq_true_eq] at h
        exact hAB ⟨h.1.1, h.1.2, h.2⟩
      rw [hd, Bool.false_or]
      cases hb : inS bx by' bz
      · rfl
      · have hB := inS_true.1 hb
        rw [Bool.true_and, Bool.true_and]
        cases hc : aboveS ax ay az bx by' bz
        · have h := aboveS_false.1 hc
          have g1 : badS ax bx = false := badS_false.2 (by omega)
          have g2 : badS ay by' = false := badS_false.2 (by omega)
          have g3 : badS az bz = false := badS_false.2 (by omega)
          have hp := partS_bd (k := 3) (show goodTo ax ay az bx by' bz 3 from ⟨fun _ => g1, fun _ => g2, fun _ => g3⟩)
          have : 0 < countS ax ay az bx by' bz := by
            rw [countS, g1, g2, g3]
            exact hp.1
          simp [this]
        · have h : (badS ax bx || badS ay by' || badS az bz) = true := by
            rw [← Bool.not_eq_false]
            intro h
            simp only [Bool.or_eq_false_iff] at h
            have h1 := badS_false.1 h.1.1
            have h2 := badS_false.1 h.1.2
            have h3 := badS_false.1 h.2
            rw [aboveS_false.2 ⟨h1.1, h2.1, h3.1⟩] at hc
            cases hc
          rw [countS, h]
          rfl

set_option maxRecDepth 20000 in
set_option maxHeartbeats 4000000 in
theorem ref_Inside (ax ay az bx by' bz : Int) (w : World) :
    Calls Try.prog 27 #[boxV ax ay az bx by' bz] w fun e w' => e = .returned (.bool (insideS ax ay az bx by' bz)) ∧ Kp [] w w' := by
  have HR := Lib.hid (inside_eq ax ay az bx by' bz)
  have HAb := Lib.hid (ref_above ax ay az bx by' bz)
  have HA := Lib.hid (ref_In ax ay az)
  have HB := Lib.hid (ref_In bx by' bz)
  generalize insideS ax ay az bx by' bz = r at *
  generalize aboveS ax ay az bx by' bz = p at *
  generalize inS ax ay az = q at *
  generalize inS bx by' bz = s at *
  unfold boxV at *
  cases q
  all_goals cases s
  all_goals cases p
  all_goals
    go_enter Try.func27, Try.ntmps27
    go_wp2_with fail
    refine (HA.out _).mono ?_
    rintro e w1 ⟨rfl, k1⟩
    obtain ⟨b0, b1, b2, b3, b4, b5⟩ := box6 k1 (by simp)
    have K1 := Lib.hid k1
    clear k1
    go_wp2_with fail
    refine (HB.out _).mono ?_
    rintro e w2 ⟨rfl, k2⟩
    clear b0 b1 b2 b3 b4 b5
    obtain ⟨d0, d1, d2, d3, d4, d5⟩ := box6 (K1.out.then k2) (by simp)
    have K2 := Lib.hid (K1.out.then k2)
    clear k2
    go_wp2_with fail
    refine (HAb.out _).mono ?_
    rintro e w3 ⟨rfl, k3⟩
    go_wp2_with fail
    go_ret
    exact ⟨ret_bool HR.out.symm, ((Kp.refl [] w).alloc _).then (K2.out.then k3)⟩
end Go.Proofs.Ythjbapjmlkbeoaa
