/- StrataFills: columns that may not be. -/
import Derived.Test.YtmliknefakoplaaDoorSFills0
namespace Go.Proofs.YtmliknefakoplaaDoor
open Go.RowKit
set_option linter.unusedVariables false
set_option linter.unusedSimpArgs false

set_option maxRecDepth 20000 in
set_option maxHeartbeats 4000000 in
theorem SFills_no (w : World) (hs : Soils w) (A0 : Option Addr) (n0 c0 : Nat) (xs0 : List Int) (e0 : IntSl w .i64 8 A0 n0 c0 xs0) (A1 : Option Addr) (n1 c1 : Nat) (xs1 : List Int) (e1 : IntSl w .i64 8 A1 n1 c1 xs1) (less : Int) (hl : I64 less) (hr : ¬ (0 < less ∧ less ≤ 256)) (hok : ¬ okCols (colL xs0 50) (colL xs1 0)) :
    Calls Tryd.prog 5 #[.slice A0 n0 c0, .slice A1 n1 c1, .int .i64 less] w fun e w' => e = .returned (.bool true) ∧ Kp [] w w' := by
  have HC0 := Lib.hid (fun W (k : Kp [] w W) => law_columns A0 n0 c0 w.heap.size xs0 50 W e0.len (e0.rd.kp0 k) k.size (by have := e0.small; omega))
  have HC1 := Lib.hid (fun W (k : Kp [] w W) => law_columns A1 n1 c1 w.heap.size xs1 0 W e1.len (e1.rd.kp0 k) k.size (by have := e1.small; omega))
  have HL0 := Lib.hid (colL_length xs0 50)
  have HL1 := Lib.hid (colL_length xs1 0)
  obtain ⟨m0, m1⟩ := hl
  clear e0 e1
  generalize colL xs0 50 = l0 at *
  generalize colL xs1 0 = l1 at *
  have HS := Lib.hid hs
  clear hs
  have hr2 : (decide (0 < less) = false) ∨ (decide (0 < less) = true ∧ decide (less ≤ 256) = false) := by
    simp only [decide_eq_true_eq, decide_eq_false_iff_not]
    omega
  clear hr m0 m1
  have HNO := Lib.hid hok
  clear hok
  rcases hr2 with t1 | ⟨t1, t2⟩
  all_goals
    go_enter Tryd.func5, Tryd.ntmps5
    go_wp2_with (first
      | (go_at_call 7; refine (awake _ HS.out).mono ?_; rintro e w1 ⟨rfl, k1⟩; have K1 := Lib.hid k1; clear k1)
      | (go_at_call 10; refine (HC1.out _ K2.out).mono ?_; rintro e w3 ⟨g3, rfl, hg3, hown3, k3⟩; have R3 := Lib.hid (Rd.of_own hown3); have R32 := Lib.hid ((R2.out.kp0 k3).more k3.size); have K3 : Hid (Kp [] w w3) := K2.out.then k3; have HS3 := Lib.hid (HS.out.kp K3.out); clear hown3 k3 hg3)
      | (go_at_call 10; refine (HC0.out _ K1.out).mono ?_; rintro e w2 ⟨g2, rfl, hg2, hown2, k2⟩; have R2 := Lib.hid (Rd.of_own hown2); have K2 : Hid (Kp [] w w2) := K1.out.then k2; clear hown2 k2 hg2)
      | (go_at_call 11; refine (fill_no g2 256 256 g3 _ 256 l0 l1 w3 HS3.out HL0.out HL1.out (by omega) (by omega) R32.out R3.out HNO.out).mono ?_; rintro e w4 ⟨rfl, k4⟩; have K4 : Hid (Kp [] w w4) := K3.out.then k4; have R42 := Lib.hid ((R32.out.kp0 k4).more k4.size); have R43 := Lib.hid ((R3.out.kp0 k4).more k4.size); clear k4)
      | (go_at_call 12; refine (rfill_no g2 256 256 g3 _ 256 l0 l1 w4 HL0.out HL1.out R42.out R43.out HNO.out).mono ?_; rintro e w5 ⟨rfl, k5⟩; have K5 : Hid (Kp [] w w5) := K4.out.then k5; clear k5))
    go_quiet (fail)
    go_wp2_with fail
    go_ret
    exact ⟨rfl, K5.out.drewN _⟩
end Go.Proofs.YtmliknefakoplaaDoor
