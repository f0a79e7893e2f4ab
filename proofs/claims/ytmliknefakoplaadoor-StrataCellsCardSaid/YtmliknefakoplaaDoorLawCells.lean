/- StrataCells: any cell of any column. -/
import Derived.Test.YtmliknefakoplaaDoorAwake14
import Derived.Test.YtmliknefakoplaaDoorRefStrata
namespace Go.Proofs.YtmliknefakoplaaDoor
open Go.RowKit
set_option linter.unusedVariables false
set_option linter.unusedSimpArgs false

set_option maxRecDepth 20000 in
set_option maxHeartbeats 2000000 in
theorem StrataCells_walk (w : World) (hs : Soils w) (h : Int) (hh : I64 h) (band : Int) (hb : I64 band) (y : Int) (hy : I64 y) :
    Calls Tryd.prog 3 #[.int .i64 h, .int .i64 band, .int .i64 y] w fun e w' => e = .returned (.bool true) ∧ Kp [] w w' := by
  have H1 := Lib.hid (strata_At h band y)
  have H2 := Lib.hid (ref_At h band y)
  generalize atS h band y = v at *
  clear hh hb hy
  go_enter Tryd.func3, Tryd.ntmps3
  go_wp2_with (first | (go_at_call 7; refine (awake _ hs).mono ?_; rintro e w1 ⟨rfl, k1⟩) | (go_at_call 8; refine (H1.out _ (hs.kp k1)).mono ?_; rintro e w2 ⟨rfl, k2⟩) | (go_at_call 9; refine (H2.out _).mono ?_; rintro e w3 ⟨rfl, rfl⟩))
  go_ret
  exact ⟨rfl, k1.then k2⟩
end Go.Proofs.YtmliknefakoplaaDoor
