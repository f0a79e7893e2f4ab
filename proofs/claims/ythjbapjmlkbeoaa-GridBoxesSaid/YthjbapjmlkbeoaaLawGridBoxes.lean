/- GridBoxes: any box's number of cells, and whether it is in the world. -/
import Derived.Test.YthjbapjmlkbeoaaAwake04
import Derived.Test.YthjbapjmlkbeoaaFlat
import Derived.Test.YthjbapjmlkbeoaaRef04Cnt
namespace Go.Proofs.Ythjbapjmlkbeoaa
open Go.RowKit
set_option linter.unusedVariables false
set_option linter.unusedSimpArgs false

def six (p0 p1 p2 p3 p4 p5 : Addr × Value) (w : World) : Prop := w.cell? p0.1 = some p0.2 ∧ w.cell? p1.1 = some p1.2 ∧ w.cell? p2.1 = some p2.2 ∧ w.cell? p3.1 = some p3.2 ∧ w.cell? p4.1 = some p4.2 ∧ w.cell? p5.1 = some p5.2
theorem six.kp {p0 p1 p2 p3 p4 p5 : Addr × Value} {w w' : World} (h : six p0 p1 p2 p3 p4 p5 w) (k : Kp [] w w') : six p0 p1 p2 p3 p4 p5 w' :=
  ⟨k.cell h.1 (by simp), k.cell h.2.1 (by simp), k.cell h.2.2.1 (by simp), k.cell h.2.2.2.1 (by simp), k.cell h.2.2.2.2.1 (by simp), k.cell h.2.2.2.2.2 (by simp)⟩

set_option maxRecDepth 20000 in
set_option maxHeartbeats 4000000 in
theorem GridBoxes_walk (w : World) (ax ay az bx by' bz : Int) :
    Calls Try.prog 9 #[boxV ax ay az bx by' bz] w fun e w' => e = .returned (.bool true) ∧ Kp [] w w' := by
  have H1 := Lib.hid (grid_Count ax ay az bx by' bz)
  have H2 := Lib.hid (ref_Count ax ay az bx by' bz)
  have H3 := Lib.hid (grid_Inside ax ay az bx by' bz)
  have H4 := Lib.hid (ref_Inside ax ay az bx by' bz)
  generalize countS ax ay az bx by' bz = n at *
  generalize insideS ax ay az bx by' bz = b at *
  unfold boxV at *
  go_enter Try.func9, Try.ntmps9
  go_wp2_with fail
  refine (awake _).mono ?_
  rintro e w1 ⟨rfl, k1⟩
  have s1 := Lib.hid (show six (⟨w.heap.size, 0, none⟩, .int .i64 ax) (⟨w.heap.size, 1, none⟩, .int .i64 ay) (⟨w.heap.size, 2, none⟩, .int .i64 az) (⟨w.heap.size, 3, none⟩, .int .i64 bx) (⟨w.heap.size, 4, none⟩, .int .i64 by') (⟨w.heap.size, 5, none⟩, .int .i64 bz) w1 from box6 k1 (by simp))
  have K1 : Hid (Kp [] w w1) := ((Kp.refl [] w).alloc _).then k1
  clear k1
  go_wp2_with fail
  go_region_held3 (fun w' => w'.cell? ⟨w.heap.size, 0, none⟩ = some (.int .i64 ax) ∧ w'.cell? ⟨w.heap.size, 1, none⟩ = some (.int .i64 ay) ∧ w'.cell? ⟨w.heap.size, 2, none⟩ = some (.int .i64 az) ∧ w'.cell? ⟨w.heap.size, 3, none⟩ = some (.int .i64 bx) ∧ w'.cell? ⟨w.heap.size, 4, none⟩ = some (.int .i64 by') ∧ w'.cell? ⟨w.heap.size, 5, none⟩ = some (.int .i64 bz))
    (first | exact s5.out | exact s4.out | exact s3.out | exact s2.out | exact s1.out)
    (first
      | (go_at_call 24; refine (H1.out _).mono ?_; rintro e w2 ⟨rfl, k2⟩; have s2 := Lib.hid (six.kp (w := w1.drew) s1.out k2); have K2 : Hid (Kp [] w w2) := K1.out.drew.then k2; clear k2)
      | (go_at_call 25; refine (H2.out _).mono ?_; rintro e w3 ⟨rfl, k3⟩; have s3 := Lib.hid (s2.out.kp k3); have K3 : Hid (Kp [] w w3) := K2.out.then k3; clear k3)
      | (go_at_call 26; refine (H3.out _).mono ?_; rintro e w4 ⟨rfl, k4⟩; have s4 := Lib.hid (s3.out.kp k4); have K4 : Hid (Kp [] w w4) := K3.out.then k4; clear k4)
      | (go_at_call 27; refine (H4.out _).mono ?_; rintro e w5 ⟨rfl, k5⟩; have s5 := Lib.hid (s4.out.kp k5); have K5 : Hid (Kp [] w w5) := K4.out.then k5; clear k5))
  go_wp2
  go_ret
  exact ⟨rfl, K5.out⟩
end Go.Proofs.Ythjbapjmlkbeoaa
