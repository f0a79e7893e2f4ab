/- The chapter's examples stand. -/
import Derived.Deep.RegionHeld3
import Derived.Test.YthjbapjmlkbeoaaNear
namespace Go.Proofs.Ythjbapjmlkbeoaa
open Go.RowKit
set_option linter.unusedVariables false
set_option linter.unusedSimpArgs false

theorem ex_chunk (w : World) : Calls Try.prog 14 #[.agg #[.int .i64 (-1), .int .i64 5, .int .i64 16]] w fun e w' => e = .returned (.agg #[.int .i64 (-1), .int .i64 1]) ∧ Kp [] w w' :=
  grid_Chunk (-1) 5 16 w ⟨by omega, by omega⟩ ⟨by omega, by omega⟩
theorem ex_index (w : World) : Calls Try.prog 16 #[.agg #[.int .i64 (-1), .int .i64 5, .int .i64 16]] w fun e w' => e = .returned (.int .i64 1295) ∧ Kp [] w w' :=
  grid_Index (-1) 5 16 w
theorem ex_cell (w : World) : Calls Try.prog 18 #[.agg #[.int .i64 (-1), .int .i64 1], .int .i64 1295] w fun e w' => e = .returned (.agg #[.int .i64 (-1), .int .i64 5, .int .i64 16]) ∧ Kp [] w w' :=
  (grid_Cell (-1) 1 1295 w).mono fun e w' h => by rwa [show cellX (-1) 1295 = -1 by decide +kernel, show cellY 1295 = 5 by decide +kernel, show cellZ 1 1295 = 16 by decide +kernel] at h
theorem ex_count (w : World) : Calls Try.prog 24 #[.agg #[.int .i64 0, .int .i64 0, .int .i64 0, .int .i64 1, .int .i64 2, .int .i64 3]] w fun e w' => e = .returned (.int .i64 24) ∧ Kp [] w w' :=
  grid_Count 0 0 0 1 2 3 w
theorem ex_none (w : World) : Calls Try.prog 24 #[.agg #[.int .i64 1, .int .i64 0, .int .i64 0, .int .i64 0, .int .i64 0, .int .i64 0]] w fun e w' => e = .returned (.int .i64 0) ∧ Kp [] w w' :=
  grid_Count 1 0 0 0 0 0 w
theorem ex_in (w : World) : Calls Try.prog 12 #[.agg #[.int .i64 (-1), .int .i64 5, .int .i64 16]] w fun e w' => e = .returned (.bool true) ∧ Kp [] w w' :=
  grid_In (-1) 5 16 w
theorem ex_near_l : nearL 0 0 1 = [(-1, -1), (0, -1), (1, -1), (-1, 0), (0, 0), (1, 0), (-1, 1), (0, 1), (1, 1)] := by decide +kernel
theorem ex_near (w : World) : Calls Try.prog 22 #[.agg #[.int .i64 0, .int .i64 0], .int .i64 1] w fun e w' => ∃ (g c : Nat), e = .returned (.slice (some ⟨g, 0, none⟩) 9 c) ∧ w'.cell? ⟨g, 0, none⟩ = some (.int .i64 (-1)) ∧ w'.cell? ⟨g, 1, none⟩ = some (.int .i64 (-1)) ∧ Kp [] w w' :=
  (grid_Near 0 0 1 w).mono fun e w' ⟨v, he, hown, hk⟩ => by
    rw [ex_near_l] at hown
    obtain ⟨g, c, rfl, hgb, hgl⟩ := hown.form (by decide)
    refine ⟨g, c, he, ?_, ?_, hk⟩
    · have h := hown.cells (g := g) rfl 0 (.int .i64 (-1)) rfl
      exact h
    · have h := hown.cells (g := g) rfl 1 (.int .i64 (-1)) rfl
      exact h

def five (p0 p1 p2 l0 l1 : Addr × Value) (w : World) : Prop := w.cell? p0.1 = some p0.2 ∧ w.cell? p1.1 = some p1.2 ∧ w.cell? p2.1 = some p2.2 ∧ w.cell? l0.1 = some l0.2 ∧ w.cell? l1.1 = some l1.2
theorem five.kp {p0 p1 p2 l0 l1 : Addr × Value} {w w' : World} (h : five p0 p1 p2 l0 l1 w) (k : Kp [] w w') : five p0 p1 p2 l0 l1 w' :=
  ⟨k.cell h.1 (by simp), k.cell h.2.1 (by simp), k.cell h.2.2.1 (by simp), k.cell h.2.2.2.1 (by simp), k.cell h.2.2.2.2 (by simp)⟩

set_option maxRecDepth 20000 in
set_option maxHeartbeats 4000000 in
theorem awake (w : World) : Calls Try.prog 11 #[] w fun e w' => e = .returned (.bool true) ∧ Kp [] w w' := by
  go_enter Try.func11, Try.ntmps11
  go_wp2_with fail
  refine (ex_near _).mono ?_
  rintro e w1 ⟨g, c, rfl, l0, l1, k1⟩
  obtain ⟨p0, p1, p2⟩ := box3 k1 (by simp)
  have K1 : Hid (Kp [] w w1) := ((Kp.refl [] w).alloc _).then k1
  have s1 : Hid (five (⟨w.heap.size, 0, none⟩, .int .i64 (-1)) (⟨w.heap.size, 1, none⟩, .int .i64 5) (⟨w.heap.size, 2, none⟩, .int .i64 16) (⟨g, 0, none⟩, .int .i64 (-1)) (⟨g, 1, none⟩, .int .i64 (-1)) w1) := ⟨p0, p1, p2, l0, l1⟩
  clear k1
  go_wp2_with fail
  go_region_held3 (fun w' => w'.cell? ⟨w.heap.size, 0, none⟩ = some (.int .i64 (-1)) ∧ w'.cell? ⟨w.heap.size, 1, none⟩ = some (.int .i64 5) ∧ w'.cell? ⟨w.heap.size, 2, none⟩ = some (.int .i64 16) ∧ w'.cell? ⟨g, 0, none⟩ = some (.int .i64 (-1)) ∧ w'.cell? ⟨g, 1, none⟩ = some (.int .i64 (-1)))
    (first | exact s7.out | exact s6.out | exact s5.out | exact s4.out | exact s3.out | exact s2.out | exact s1.out)
    (first
      | (go_at_call 14; refine (ex_chunk _).mono ?_; rintro e w2 ⟨rfl, k2⟩; have s2 := Lib.hid (five.kp (w := w1.drew) s1.out k2); have K2 : Hid (Kp [] w w2) := K1.out.drew.then k2; clear k2)
      | (go_at_call 16; refine (ex_index _).mono ?_; rintro e w3 ⟨rfl, k3⟩; have s3 := Lib.hid (s2.out.kp k3); have K3 : Hid (Kp [] w w3) := K2.out.then k3; clear k3)
      | (go_at_call 18; refine (ex_cell _).mono ?_; rintro e w4 ⟨rfl, k4⟩; have s4 := Lib.hid (s3.out.kp k4); have K4 : Hid (Kp [] w w4) := K3.out.then k4; clear k4)
      | (go_at_call 24; have q := s4; refine (ex_count _).mono ?_; rintro e w5 ⟨rfl, k5⟩; have s5 := Lib.hid (s4.out.kp k5); have K5 : Hid (Kp [] w w5) := K4.out.then k5; clear k5 q s4)
      | (go_at_call 24; refine (ex_none _).mono ?_; rintro e w6 ⟨rfl, k6⟩; have s6 := Lib.hid (s5.out.kp k6); have K6 : Hid (Kp [] w w6) := K5.out.then k6; clear k6)
      | (go_at_call 12; refine (ex_in _).mono ?_; rintro e w7 ⟨rfl, k7⟩; have s7 := Lib.hid (s6.out.kp k7); have K7 : Hid (Kp [] w w7) := K6.out.then k7; clear k7))
  go_wp2
  go_ret
  exact ⟨rfl, K7.out⟩
end Go.Proofs.Ythjbapjmlkbeoaa
