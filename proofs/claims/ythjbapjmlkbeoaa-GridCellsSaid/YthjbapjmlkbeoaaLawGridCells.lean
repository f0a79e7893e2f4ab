/- GridCells: any cell's chunk, its place there, and whether it is in the world. -/
import Derived.Test.YthjbapjmlkbeoaaAwake04
import Derived.Test.YthjbapjmlkbeoaaFlat
import Derived.Test.YthjbapjmlkbeoaaRef04
namespace Go.Proofs.Ythjbapjmlkbeoaa
open Go.RowKit
set_option linter.unusedVariables false
set_option linter.unusedSimpArgs false

def three (p0 p1 p2 : Addr × Value) (w : World) : Prop := w.cell? p0.1 = some p0.2 ∧ w.cell? p1.1 = some p1.2 ∧ w.cell? p2.1 = some p2.2
theorem three.kp {p0 p1 p2 : Addr × Value} {w w' : World} (h : three p0 p1 p2 w) (k : Kp [] w w') : three p0 p1 p2 w' :=
  ⟨k.cell h.1 (by simp), k.cell h.2.1 (by simp), k.cell h.2.2 (by simp)⟩

set_option maxRecDepth 20000 in
set_option maxHeartbeats 4000000 in
theorem GridCells_walk (w : World) (x y z : Int) (hx : I64 x) (hy : I64 y) (hz : I64 z) :
    Calls Try.prog 3 #[.agg #[.int .i64 x, .int .i64 y, .int .i64 z]] w fun e w' => e = .returned (.bool true) ∧ Kp [] w w' := by
  have H1 := Lib.hid (grid_In x y z)
  have H2 := Lib.hid (ref_In x y z)
  have H3 := Lib.hid (fun w => grid_Chunk x y z w hx hz)
  have H4 := Lib.hid (fun w => ref_Chunk x y z w hx hz)
  have H5 := Lib.hid (grid_Index x y z)
  have H6 := Lib.hid (ref_Index x y z)
  generalize inS x y z = b at *
  generalize fdiv x 16 = qx at *
  generalize fdiv z 16 = qz at *
  generalize idxS x y z = ix at *
  clear hx hy hz
  go_enter Try.func3, Try.ntmps3
  go_wp2_with fail
  refine (awake _).mono ?_
  rintro e w1 ⟨rfl, k1⟩
  obtain ⟨p0, p1, p2⟩ := box3 k1 (by simp)
  have K1 : Hid (Kp [] w w1) := ((Kp.refl [] w).alloc _).then k1
  have s1 : Hid (three (⟨w.heap.size, 0, none⟩, .int .i64 x) (⟨w.heap.size, 1, none⟩, .int .i64 y) (⟨w.heap.size, 2, none⟩, .int .i64 z) w1) := ⟨p0, p1, p2⟩
  clear k1
  go_wp2_with fail
  go_region_held3 (fun w' => w'.cell? ⟨w.heap.size, 0, none⟩ = some (.int .i64 x) ∧ w'.cell? ⟨w.heap.size, 1, none⟩ = some (.int .i64 y) ∧ w'.cell? ⟨w.heap.size, 2, none⟩ = some (.int .i64 z))
    (first | exact s7.out | exact s6.out | exact s5.out | exact s4.out | exact s3.out | exact s2.out | exact s1.out)
    (first
      | (go_at_call 12; refine (H1.out _).mono ?_; rintro e w2 ⟨rfl, k2⟩; have s2 := Lib.hid (three.kp (w := w1.drew) s1.out k2); have K2 : Hid (Kp [] w w2) := K1.out.drew.then k2; clear k2)
      | (go_at_call 13; refine (H2.out _).mono ?_; rintro e w3 ⟨rfl, k3⟩; have s3 := Lib.hid (s2.out.kp k3); have K3 : Hid (Kp [] w w3) := K2.out.then k3; clear k3)
      | (go_at_call 14; refine (H3.out _).mono ?_; rintro e w4 ⟨rfl, k4⟩; have s4 := Lib.hid (s3.out.kp k4); have K4 : Hid (Kp [] w w4) := K3.out.then k4; clear k4)
      | (go_at_call 15; refine (H4.out _).mono ?_; rintro e w5 ⟨rfl, k5⟩; have s5 := Lib.hid (s4.out.kp k5); have K5 : Hid (Kp [] w w5) := K4.out.then k5; clear k5)
      | (go_at_call 16; refine (H5.out _).mono ?_; rintro e w6 ⟨rfl, k6⟩; have s6 := Lib.hid (s5.out.kp k6); have K6 : Hid (Kp [] w w6) := K5.out.then k6; clear k6)
      | (go_at_call 17; refine (H6.out _).mono ?_; rintro e w7 ⟨rfl, k7⟩; have s7 := Lib.hid (s6.out.kp k7); have K7 : Hid (Kp [] w w7) := K6.out.then k7; clear k7))
  go_wp2
  go_ret
  exact ⟨rfl, K7.out⟩
end Go.Proofs.Ythjbapjmlkbeoaa
