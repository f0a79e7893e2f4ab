/- GridBack: a cell that is asked for by its chunk and its place there is the cell; a place's cell has that chunk and that place. -/
import Derived.Deep.DeepCutAuto
import Derived.Deep.CutBlock
import Derived.Test.YthjbapjmlkbeoaaHas
import Derived.Test.YthjbapjmlkbeoaaAwake04
import Derived.Test.YthjbapjmlkbeoaaFlat
import Derived.Test.YthjbapjmlkbeoaaRef04
namespace Go.Proofs.Ythjbapjmlkbeoaa
open Go.RowKit
set_option linter.unusedVariables false
set_option linter.unusedSimpArgs false

theorem cell_there {cx cz i : Int} (hi : 0 ≤ i ∧ i < 32768) (hx : -1099511627776 ≤ cx ∧ cx ≤ 1099511627776) (hz : -1099511627776 ≤ cz ∧ cz ≤ 1099511627776) :
    fdiv (cellX cx i) 16 = cx ∧ fdiv (cellZ cz i) 16 = cz ∧ idxS (cellX cx i) (cellY i) (cellZ cz i) = i ∧ I64 (cellX cx i) ∧ I64 (cellZ cz i) := by
  have hb : wthn i 0 32767 = true := wthn_true.2 ⟨hi.1, by omega⟩
  have e1 : wrap64 (cx * 16) = cx * 16 := by unfold wrap64; omega
  have e2 : wrap64 (cz * 16) = cz * 16 := by unfold wrap64; omega
  have e3 : wrap64 (cx * 16 + i % 16) = cx * 16 + i % 16 := by unfold wrap64; omega
  have e4 : wrap64 (cz * 16 + i / 16 % 16) = cz * 16 + i / 16 % 16 := by unfold wrap64; omega
  rw [cellX, cellY, cellZ, hb, if_pos rfl, if_pos rfl, if_pos rfl, e1, e2, e3, e4, fdiv16, fdiv16]
  have hy : wthn (i / 256) 0 127 = true := wthn_true.2 (by omega)
  rw [idxS, hy, if_pos rfl, fmod16, fmod16]
  refine ⟨by omega, by omega, by omega, ?_, ?_⟩ <;> unfold I64 <;> omega

theorem back_there {x y z : Int} (hx : I64 x) (hz : I64 z) (hy : 0 ≤ y ∧ y < 128) :
    cellX (fdiv x 16) (idxS x y z) = x ∧ cellY (idxS x y z) = y ∧ cellZ (fdiv z 16) (idxS x y z) = z := by
  have hb : wthn y 0 127 = true := wthn_true.2 (by omega)
  have h1 : idxS x y z = y * 256 + z % 16 * 16 + x % 16 := by rw [idxS, hb, if_pos rfl, fmod16, fmod16]
  have hi : wthn (idxS x y z) 0 32767 = true := by rw [h1]; exact wthn_true.2 (by omega)
  rw [cellX, cellY, cellZ, hi, if_pos rfl, if_pos rfl, if_pos rfl, h1, fdiv16, fdiv16]
  unfold I64 at hx hz
  refine ⟨?_, by omega, ?_⟩ <;> unfold wrap64 <;> omega

set_option maxRecDepth 20000 in
set_option maxHeartbeats 8000000 in
theorem GridBack_walk (w : World) (x y z : Int) (hx : I64 x) (hy : I64 y) (hz : I64 z) (cx cz : Int) (i : Int) :
    Calls Try.prog 4 #[.agg #[.int .i64 x, .int .i64 y, .int .i64 z], .agg #[.int .i64 cx, .int .i64 cz], .int .i64 i] w fun e w' => e = .returned (.bool true) ∧ Kp [] w w' := by
  have H1 := Lib.hid (grid_Cell cx cz i)
  have H2 := Lib.hid (ref_Cell cx cz i)
  have H3 := Lib.hid (grid_Chunk (cellX cx i) (cellY i) (cellZ cz i))
  have H4 := Lib.hid (grid_Index (cellX cx i) (cellY i) (cellZ cz i))
  have HT := Lib.hid (fun h1 h2 h3 => cell_there (cx := cx) (cz := cz) (i := i) h1 h2 h3)
  have H5 := Lib.hid (fun w => grid_Chunk x y z w hx hz)
  have H6 := Lib.hid (grid_Index x y z)
  have H7 := Lib.hid (grid_Cell (fdiv x 16) (fdiv z 16) (idxS x y z))
  have HBk := Lib.hid (fun h => back_there (x := x) (y := y) (z := z) hx hz h)
  generalize cellX cx i = qx at *
  generalize cellY i = qy at *
  generalize cellZ cz i = qz at *
  generalize fdiv x 16 = dx at *
  generalize fdiv z 16 = dz at *
  generalize idxS x y z = ix at *
  clear hx hy hz
  go_enter Try.func4, Try.ntmps4
  go_wp2_with fail
  refine (awake _).mono ?_
  rintro e w1 ⟨rfl, k1⟩
  have s1 := Lib.hid ((((has_new3 w 23 (.int .i64 x) (.int .i64 y) (.int .i64 z)).alloc (.cells #[.int .i64 cx, .int .i64 cz] 27)).app (has_new2 _ 27 (.int .i64 cx) (.int .i64 cz))).kp k1)
  rw [World.size_alloc] at s1
  have K1 : Hid (Kp [] w w1) := (((Kp.refl [] w).alloc _).alloc _).then k1
  clear k1
  have c1 : w1.cell? ⟨w.heap.size + 1, 0, none⟩ = some (.int .i64 cx) := s1.out.2.2.2.1
  have c2 : w1.cell? ⟨w.heap.size + 1, 1, none⟩ = some (.int .i64 cz) := s1.out.2.2.2.2
  go_wp2_with fail
  refine (H1.out _).mono ?_
  rintro e w2 ⟨rfl, k2⟩
  have s2 := Lib.hid (((s1.out.kp k2).alloc (.cells #[.int .i64 qx, .int .i64 qy, .int .i64 qz] 23)).app (has_new3 w2 23 (.int .i64 qx) (.int .i64 qy) (.int .i64 qz)))
  have K2 : Hid (Kp [] w w2) := K1.out.then k2
  have hsz := k2.size
  clear k2 c1 c2
  go_wp2_with fail
  go_region_held3 (fun w' => w'.cell? ⟨w.heap.size, 0, none⟩ = some (.int .i64 x) ∧ w'.cell? ⟨w.heap.size, 1, none⟩ = some (.int .i64 y) ∧ w'.cell? ⟨w.heap.size, 2, none⟩ = some (.int .i64 z) ∧ w'.cell? ⟨w.heap.size + 1, 0, none⟩ = some (.int .i64 cx) ∧ w'.cell? ⟨w.heap.size + 1, 1, none⟩ = some (.int .i64 cz) ∧ w'.cell? ⟨w2.heap.size, 0, none⟩ = some (.int .i64 qx) ∧ w'.cell? ⟨w2.heap.size, 1, none⟩ = some (.int .i64 qy) ∧ w'.cell? ⟨w2.heap.size, 2, none⟩ = some (.int .i64 qz))
    (first | exact s3.out | exact s2.out.drew)
    (first
      | (go_at_call 19; refine (H2.out _).mono ?_; rintro e w3 ⟨rfl, k3⟩; have s3 := Lib.hid (s2.out.drew.kp k3); have K3 : Hid (Kp [] w w3) := (K2.out.alloc _).drew.then k3; clear k3))
  have S3 : Hid (Has w3 [(⟨w.heap.size, 0, none⟩, .int .i64 x), (⟨w.heap.size, 1, none⟩, .int .i64 y), (⟨w.heap.size, 2, none⟩, .int .i64 z), (⟨w.heap.size + 1, 0, none⟩, .int .i64 cx), (⟨w.heap.size + 1, 1, none⟩, .int .i64 cz), (⟨w2.heap.size, 0, none⟩, .int .i64 qx), (⟨w2.heap.size, 1, none⟩, .int .i64 qy), (⟨w2.heap.size, 2, none⟩, .int .i64 qz)]) := s3.out
  clear s1 s2 s3 H1 H2 K1 K2
  go_wp2_with fail
  go_cut [59] (fun s wx => s = .bool false ∧ Hid (Kp [] w wx) ∧ Hid (Has wx [(⟨w.heap.size, 0, none⟩, .int .i64 x), (⟨w.heap.size, 1, none⟩, .int .i64 y), (⟨w.heap.size, 2, none⟩, .int .i64 z), (⟨w.heap.size + 1, 0, none⟩, .int .i64 cx), (⟨w.heap.size + 1, 1, none⟩, .int .i64 cz), (⟨w2.heap.size, 0, none⟩, .int .i64 qx), (⟨w2.heap.size, 1, none⟩, .int .i64 qy), (⟨w2.heap.size, 2, none⟩, .int .i64 qz)]))
  case first =>
    have hc : (i < 0) ∨ (0 ≤ i ∧ 32768 ≤ i) ∨ ((0 ≤ i ∧ i < 32768) ∧ cx < -1099511627776) ∨ ((0 ≤ i ∧ i < 32768) ∧ -1099511627776 ≤ cx ∧ 1099511627776 < cx) ∨ ((0 ≤ i ∧ i < 32768) ∧ (-1099511627776 ≤ cx ∧ cx ≤ 1099511627776) ∧ cz < -1099511627776) ∨ ((0 ≤ i ∧ i < 32768) ∧ (-1099511627776 ≤ cx ∧ cx ≤ 1099511627776) ∧ -1099511627776 ≤ cz ∧ 1099511627776 < cz) ∨ ((0 ≤ i ∧ i < 32768) ∧ (-1099511627776 ≤ cx ∧ cx ≤ 1099511627776) ∧ -1099511627776 ≤ cz ∧ cz ≤ 1099511627776) := by omega
    rcases hc with h | ⟨h1, h⟩ | ⟨⟨h1, h2⟩, h⟩ | ⟨⟨h1, h2⟩, h3, h⟩ | ⟨⟨h1, h2⟩, ⟨h3, h4⟩, h⟩ | ⟨⟨h1, h2⟩, ⟨h3, h4⟩, h5, h⟩ | ⟨⟨h1, h2⟩, ⟨h3, h4⟩, h5, h6⟩
    · have t1 : decide (0 ≤ i) = false := by simpa using h
      go_quiet (fail)
      go_wp2_with fail
      go_meet
      exact ⟨rfl, K3.out.drewN _, S3.out.drewN _⟩
    · have t1 : decide (i < 32768) = false := by simpa using h
      go_quiet (fail)
      go_wp2_with fail
      go_meet
      exact ⟨rfl, K3.out.drewN _, S3.out.drewN _⟩
    · have t1 : decide (-1099511627776 ≤ cx) = false := by simpa using h
      go_quiet (fail)
      go_wp2_with fail
      go_meet
      exact ⟨rfl, K3.out.drewN _, S3.out.drewN _⟩
    · have t1 : decide (cx ≤ 1099511627776) = false := by simpa using h
      go_quiet (fail)
      go_wp2_with fail
      go_meet
      exact ⟨rfl, K3.out.drewN _, S3.out.drewN _⟩
    · have t1 : decide (-1099511627776 ≤ cz) = false := by simpa using h
      go_quiet (fail)
      go_wp2_with fail
      go_meet
      exact ⟨rfl, K3.out.drewN _, S3.out.drewN _⟩
    · have t1 : decide (cz ≤ 1099511627776) = false := by simpa using h
      go_quiet (fail)
      go_wp2_with fail
      go_meet
      exact ⟨rfl, K3.out.drewN _, S3.out.drewN _⟩
    · obtain ⟨e1, e2, e3, i1, i2⟩ := HT.out ⟨h1, h2⟩ ⟨h3, h4⟩ ⟨h5, h6⟩
      have G3 := H3.out
      have G4 := H4.out
      rw [e1, e2] at G3
      rw [e3] at G4
      have G3 := Lib.hid (fun w => G3 w i1 i2)
      have G4 := Lib.hid G4
      clear e1 e2 e3 i1 i2 H3 H4
      go_region_held3 (fun w' => w'.cell? ⟨w.heap.size, 0, none⟩ = some (.int .i64 x) ∧ w'.cell? ⟨w.heap.size, 1, none⟩ = some (.int .i64 y) ∧ w'.cell? ⟨w.heap.size, 2, none⟩ = some (.int .i64 z) ∧ w'.cell? ⟨w.heap.size + 1, 0, none⟩ = some (.int .i64 cx) ∧ w'.cell? ⟨w.heap.size + 1, 1, none⟩ = some (.int .i64 cz) ∧ w'.cell? ⟨w2.heap.size, 0, none⟩ = some (.int .i64 qx) ∧ w'.cell? ⟨w2.heap.size, 1, none⟩ = some (.int .i64 qy) ∧ w'.cell? ⟨w2.heap.size, 2, none⟩ = some (.int .i64 qz))
        (first | exact s5.out | exact s4.out | exact S3.out.drew)
        (first
          | (go_at_call 14; refine (G3.out _).mono ?_; rintro e w4 ⟨rfl, k4⟩; have s4 := Lib.hid (S3.out.drew.kp k4); have K4 : Hid (Kp [] w w4) := K3.out.drew.then k4; clear k4)
          | (go_at_call 16; refine (G4.out _).mono ?_; rintro e w5 ⟨rfl, k5⟩; have s5 := Lib.hid (s4.out.kp k5); have K5 : Hid (Kp [] w w5) := K4.out.then k5; clear k5))
      go_wp2_with fail
      go_meet
      exact ⟨rfl, K5.out, s5.out⟩
  case rest =>
    obtain ⟨rfl, HK, HS⟩ := hcut
    clear K3 S3 H3 H4 HT
    go_wp2_with fail
    have hc : (y < 0) ∨ (0 ≤ y ∧ 128 ≤ y) ∨ (0 ≤ y ∧ y < 128) := by omega
    have y1 : wc.cell? ⟨w.heap.size, 1, none⟩ = some (.int .i64 y) := HS.out.2.1
    rcases hc with h | ⟨h1, h⟩ | ⟨h1, h2⟩
    · go_quiet (fail)
      go_wp2
      go_ret
      exact ⟨rfl, HK.out.drewN _⟩
    · have t1 : decide (y < 0) = false := by simpa using h1
      go_quiet (fail)
      go_wp2
      go_ret
      exact ⟨rfl, HK.out.drewN _⟩
    · have t1 : decide (y < 0) = false := by simpa using h1
      have t2 : decide (128 ≤ y) = false := by simpa using h2
      obtain ⟨e1, e2, e3⟩ := HBk.out ⟨h1, h2⟩
      have G7 := H7.out
      rw [e1, e2, e3] at G7
      have G7 := Lib.hid G7
      clear e1 e2 e3 H7 y1
      go_region_held3 (fun w' => w'.cell? ⟨w.heap.size, 0, none⟩ = some (.int .i64 x) ∧ w'.cell? ⟨w.heap.size, 1, none⟩ = some (.int .i64 y) ∧ w'.cell? ⟨w.heap.size, 2, none⟩ = some (.int .i64 z) ∧ w'.cell? ⟨w.heap.size + 1, 0, none⟩ = some (.int .i64 cx) ∧ w'.cell? ⟨w.heap.size + 1, 1, none⟩ = some (.int .i64 cz) ∧ w'.cell? ⟨w2.heap.size, 0, none⟩ = some (.int .i64 qx) ∧ w'.cell? ⟨w2.heap.size, 1, none⟩ = some (.int .i64 qy) ∧ w'.cell? ⟨w2.heap.size, 2, none⟩ = some (.int .i64 qz))
        (first | exact s7.out | exact s6.out | exact s5.out | exact HS.out.drew)
        (first
          | (go_at_call 14; refine (H5.out _).mono ?_; rintro e w5 ⟨rfl, k5⟩; have s5 := Lib.hid (HS.out.drew.kp k5); have K5 : Hid (Kp [] w w5) := HK.out.drew.then k5; clear k5)
          | (go_at_call 16; refine (H6.out _).mono ?_; rintro e w6 ⟨rfl, k6⟩; have s6 := Lib.hid (s5.out.kp k6); have K6 : Hid (Kp [] w w6) := K5.out.then k6; clear k6)
          | (go_at_call 18; refine (G7.out _).mono ?_; rintro e w7 ⟨rfl, k7⟩; have s7 := Lib.hid (s6.out.kp k7); have K7 : Hid (Kp [] w w7) := K6.out.then k7; clear k7))
      go_wp2
      go_ret
      exact ⟨rfl, K7.out⟩
end Go.Proofs.Ythjbapjmlkbeoaa
