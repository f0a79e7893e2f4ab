/- The chapter's examples stand. -/
import Derived.Test.YtmliknefakoplaaDoorStrata
namespace Go.Proofs.YtmliknefakoplaaDoor
open Go.RowKit
set_option linter.unusedVariables false
set_option linter.unusedSimpArgs false

set_option maxRecDepth 20000 in
set_option maxHeartbeats 2000000 in
theorem awake (w : World) (hs : Soils w) : Calls Tryd.prog 7 #[] w fun e w' => e = .returned (.bool true) ∧ Kp [] w w' := by
  have e1 : atS 60 0 0 = 15 := by decide
  have e2 : atS 60 0 56 = 1 := by decide
  have e3 : atS 60 0 58 = 2 := by decide
  have e4 : atS 60 0 60 = 3 := by decide
  have e5 : atS 60 0 61 = 0 := by decide
  have e6 : atS 30 2 30 = 4 := by decide
  have e7 : atS 30 2 44 = 5 := by decide
  have e8 : atS 30 2 45 = 0 := by decide
  have hk := Kp.refl [] w
  go_enter Tryd.func7, Tryd.ntmps7
  go_wp2_with fail
  refine (strata_At _ _ _ _ hs).mono ?_
  rintro e w1 ⟨rfl, k1⟩
  go_wp2_with fail
  refine (strata_At _ _ _ _ (hs.kp k1)).mono ?_
  rintro e w2 ⟨rfl, k2⟩
  have k12 := k1.then k2
  go_wp2_with fail
  refine (strata_At _ _ _ _ (hs.kp k12)).mono ?_
  rintro e w3 ⟨rfl, k3⟩
  have k13 := k12.then k3
  go_wp2_with fail
  refine (strata_At _ _ _ _ (hs.kp k13)).mono ?_
  rintro e w4 ⟨rfl, k4⟩
  have k14 := k13.then k4
  go_wp2_with fail
  refine (strata_At _ _ _ _ (hs.kp k14)).mono ?_
  rintro e w5 ⟨rfl, k5⟩
  have k15 := k14.then k5
  go_wp2_with fail
  refine (strata_At _ _ _ _ (hs.kp k15)).mono ?_
  rintro e w6 ⟨rfl, k6⟩
  have k16 := k15.then k6
  go_wp2_with fail
  refine (strata_At _ _ _ _ (hs.kp k16)).mono ?_
  rintro e w7 ⟨rfl, k7⟩
  have k17 := k16.then k7
  go_wp2_with fail
  refine (strata_At _ _ _ _ (hs.kp k17)).mono ?_
  rintro e w8 ⟨rfl, k8⟩
  have k18 := k17.then k8
  go_wp2
  go_ret
  exact ⟨rfl, k18⟩
end Go.Proofs.YtmliknefakoplaaDoor
