/- The walk of grid.Inside. -/
import Derived.Test.YthjbapjmlkbeoaaGridCount
import Derived.Test.YthjbapjmlkbeoaaBoxed
namespace Go.Proofs.Ythjbapjmlkbeoaa
open Go.RowKit
set_option linter.unusedVariables false
set_option linter.unusedSimpArgs false

def insideS (ax ay az bx by' bz : Int) : Bool := inS ax ay az && ((decide (ax = bx) && decide (ay = by') && decide (az = bz)) || (inS bx by' bz && decide (0 < countS ax ay az bx by' bz)))

set_option maxRecDepth 20000 in
set_option maxHeartbeats 4000000 in
theorem grid_Inside (ax ay az bx by' bz : Int) (w : World) :
    Calls Try.prog 26 #[boxV ax ay az bx by' bz] w fun e w' => e = .returned (.bool (insideS ax ay az bx by' bz)) ∧ Kp [] w w' := by
  have HC := Lib.hid (grid_Count ax ay az bx by' bz)
  unfold boxV at HC
  unfold boxV
  cases ha : inS ax ay az
  · have HR : Hid (insideS ax ay az bx by' bz = false) := by
      show _ = _
      rw [insideS, ha]
      rfl
    have HA := Lib.hid ha
    clear ha
    go_enter Try.func26, Try.ntmps26
    go_wp2_with fail
    refine (grid_In _ _ _ _).mono ?_
    rintro e w1 ⟨rfl, k1⟩
    rw [HA.out]
    have K1 := Lib.hid k1
    clear k1
    go_wp2_with fail
    go_ret
    exact ⟨ret_bool HR.out.symm, ((Kp.refl [] w).alloc _).then K1.out⟩
  · by_cases hAB : ax = bx ∧ ay = by' ∧ az = bz
    · have HR : Hid (insideS ax ay az bx by' bz = true) := by
        show _ = _
        rw [insideS, ha]
        simp [hAB]
      have HA := Lib.hid ha
      clear ha
      obtain ⟨rfl, rfl, rfl⟩ := hAB
      go_enter Try.func26, Try.ntmps26
      go_wp2_with fail
      refine (grid_In _ _ _ _).mono ?_
      rintro e w1 ⟨rfl, k1⟩
      rw [HA.out]
      obtain ⟨b0, b1, b2, b3, b4, b5⟩ := box6 k1 (by simp)
      have K1 := Lib.hid k1
      clear k1
      go_wp2_with fail
      go_ret
      exact ⟨ret_bool HR.out.symm, ((Kp.refl [] w).alloc _).then K1.out⟩
    · have hd : (decide (ax = bx) && decide (ay = by') && decide (az = bz)) = false := by
        rw [Bool.eq_false_iff]
        intro h
        simp only [Bool.and_eq_true, decide_eq_true_eq] at h
        exact hAB ⟨h.1.1, h.1.2, h.2⟩
      cases hb : inS bx by' bz
      · have HR : Hid (insideS ax ay az bx by' bz = false) := by
          show _ = _
          rw [insideS, ha, hb, hd]
          rfl
        have HA := Lib.hid ha
        have HB := Lib.hid hb
        have HN := Lib.hid hAB
        clear ha hb hd hAB
        have h3 : ax ≠ bx ∨ (ax = bx ∧ ay ≠ by') ∨ (ax = bx ∧ ay = by' ∧ az ≠ bz) := by have := HN.out; omega
        clear HN
        rcases h3 with h | ⟨rfl, h⟩ | ⟨rfl, rfl, h⟩
        all_goals
          go_enter Try.func26, Try.ntmps26
          go_wp2_with fail
          refine (grid_In _ _ _ _).mono ?_
          rintro e w1 ⟨rfl, k1⟩
          rw [HA.out]
          obtain ⟨b0, b1, b2, b3, b4, b5⟩ := box6 k1 (by simp)
          have K1 := Lib.hid k1
          clear k1
          go_wp2_with fail
          refine (grid_In _ _ _ _).mono ?_
          rintro e w2 ⟨rfl, k2⟩
          rw [HB.out]
          go_wp2_with fail
          go_ret
          exact ⟨ret_bool HR.out.symm, (((Kp.refl [] w).alloc _).then K1.out).then k2⟩
      · have HR : Hid (insideS ax ay az bx by' bz = decide (0 < countS ax ay az bx by' bz)) := by
          show _ = _
          rw [insideS, ha, hb, hd]
          rfl
        have HA := Lib.hid ha
        have HB := Lib.hid hb
        have HN := Lib.hid hAB
        clear ha hb hd hAB
        have h3 : ax ≠ bx ∨ (ax = bx ∧ ay ≠ by') ∨ (ax = bx ∧ ay = by' ∧ az ≠ bz) := by have := HN.out; omega
        clear HN
        rcases h3 with h | ⟨rfl, h⟩ | ⟨rfl, rfl, h⟩
        all_goals
          go_enter Try.func26, Try.ntmps26
          go_wp2_with fail
          refine (grid_In _ _ _ _).mono ?_
          rintro e w1 ⟨rfl, k1⟩
          rw [HA.out]
          obtain ⟨b0, b1, b2, b3, b4, b5⟩ := box6 k1 (by simp)
          have K1 := Lib.hid k1
          clear k1
          go_wp2_with fail
          refine (grid_In _ _ _ _).mono ?_
          rintro e w2 ⟨rfl, k2⟩
          rw [HB.out]
          obtain ⟨d0, d1, d2, d3, d4, d5⟩ := box6 (K1.out.then k2) (by simp)
          clear b0 b1 b2 b3 b4 b5
          go_wp2_with fail
          refine (HC.out _).mono ?_
          rintro e w3 ⟨rfl, k3⟩
          go_wp2_with fail
          go_ret
          exact ⟨ret_bool HR.out.symm, ((((Kp.refl [] w).alloc _).then K1.out).then k2).then k3⟩
end Go.Proofs.Ythjbapjmlkbeoaa
