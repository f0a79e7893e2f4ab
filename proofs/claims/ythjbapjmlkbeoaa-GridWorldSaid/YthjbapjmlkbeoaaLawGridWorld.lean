/- GridWorld: a box is in the world just if it has cells and both its ends are; each cell of it is, then. -/
import Derived.Deep.DeepCutAuto
import Derived.Deep.CutBlock
import Derived.Test.YthjbapjmlkbeoaaHas
import Derived.Test.YthjbapjmlkbeoaaAwake04
import Derived.Test.YthjbapjmlkbeoaaFlat
import Derived.Test.YthjbapjmlkbeoaaGridInside
namespace Go.Proofs.Ythjbapjmlkbeoaa
open Go.RowKit
set_option linter.unusedVariables false
set_option linter.unusedSimpArgs false

theorem inside_alt (ax ay az bx by' bz : Int) : insideS ax ay az bx by' bz = (inS ax ay az && inS bx by' bz && decide (0 < countS ax ay az bx by' bz)) := by
  unfold insideS
  cases ha : inS ax ay az
  · rfl
  · rw [Bool.true_and, Bool.true_and]
    by_cases hAB : ax = bx ∧ ay = by' ∧ az = bz
    · obtain ⟨rfl, rfl, rfl⟩ := hAB
      have hA := inS_true.1 ha
      have g1 : badS ax ax = false := badS_false.2 (by omega)
      have g2 : badS ay ay = false := badS_false.2 (by omega)
      have g3 : badS az az = false := badS_false.2 (by omega)
      have hp := partS_bd (k := 3) (show goodTo ax ay az ax ay az 3 from ⟨fun _ => g1, fun _ => g2, fun _ => g3⟩)
      have : 0 < countS ax ay az ax ay az := by
        rw [countS, g1, g2, g3]
        exact hp.1
      rw [ha]
      simp [this]
    · have hd : (decide (ax = bx) && decide (ay = by') && decide (az = bz)) = false := by
        rw [Bool.eq_false_iff]
        intro h
        simp only [Bool.and_eq_true, decide_eq_true_eq] at h
        exact hAB ⟨h.1.1, h.1.2, h.2⟩
      rw [hd, Bool.false_or]

set_option maxRecDepth 20000 in
set_option maxHeartbeats 8000000 in
theorem GridWorld_walk (w : World) (ax ay az bx by' bz x y z : Int) :
    Calls Try.prog 10 #[boxV ax ay az bx by' bz, .int .i64 x, .int .i64 y, .int .i64 z] w fun e w' => e = .returned (.bool true) ∧ Kp [] w w' := by
  have HI := Lib.hid (inside_alt ax ay az bx by' bz)
  have H1 := Lib.hid (grid_Inside ax ay az bx by' bz)
  have H2 := Lib.hid (grid_In ax ay az)
  have H3 := Lib.hid (grid_In bx by' bz)
  have H4 := Lib.hid (grid_Count ax ay az bx by' bz)
  have HA := Lib.hid (fun h => (inS_true (x := ax) (y := ay) (z := az)).1 h)
  have HB := Lib.hid (fun h => (inS_true (x := bx) (y := by') (z := bz)).1 h)
  generalize insideS ax ay az bx by' bz = b at *
  generalize inS ax ay az = ia at *
  generalize inS bx by' bz = ib at *
  generalize countS ax ay az bx by' bz = n at *
  unfold boxV at *
  go_enter Try.func10, Try.ntmps10
  go_wp2_with fail
  refine (awake _).mono ?_
  rintro e w1 ⟨rfl, k1⟩
  obtain ⟨b0, b1, b2, b3, b4, b5⟩ := box6 k1 (by simp)
  have K1 : Hid (Kp [] w w1) := ((Kp.refl [] w).alloc _).then k1
  clear k1
  go_wp2_with fail
  refine (H1.out _).mono ?_
  rintro e w2 ⟨rfl, k2⟩
  have s2 : Hid (Has w2 [(⟨w.heap.size, 0, none⟩, .int .i64 ax), (⟨w.heap.size, 1, none⟩, .int .i64 ay), (⟨w.heap.size, 2, none⟩, .int .i64 az), (⟨w.heap.size, 3, none⟩, .int .i64 bx), (⟨w.heap.size, 4, none⟩, .int .i64 by'), (⟨w.heap.size, 5, none⟩, .int .i64 bz)]) :=
    Has.kp (w := w1) (show Has w1 [(⟨w.heap.size, 0, none⟩, .int .i64 ax), (⟨w.heap.size, 1, none⟩, .int .i64 ay), (⟨w.heap.size, 2, none⟩, .int .i64 az), (⟨w.heap.size, 3, none⟩, .int .i64 bx), (⟨w.heap.size, 4, none⟩, .int .i64 by'), (⟨w.heap.size, 5, none⟩, .int .i64 bz)] from ⟨b0, b1, b2, b3, b4, b5⟩) k2
  have K2 : Hid (Kp [] w w2) := K1.out.then k2
  clear k2 K1 b0 b1 b2 b3 b4 b5 H1
  go_upto_region 3 with (fail)
  go_cut [33] (fun s wx => s = .bool false ∧ Hid (Kp [] w wx) ∧ Hid (Has wx [(⟨w.heap.size, 0, none⟩, .int .i64 ax), (⟨w.heap.size, 1, none⟩, .int .i64 ay), (⟨w.heap.size, 2, none⟩, .int .i64 az), (⟨w.heap.size, 3, none⟩, .int .i64 bx), (⟨w.heap.size, 4, none⟩, .int .i64 by'), (⟨w.heap.size, 5, none⟩, .int .i64 bz)]))
  case first =>
    obtain ⟨b0, b1, b2, b3, b4, b5⟩ := has6 s2.out
    cases ia
    · obtain rfl : b = false := HI.out
      go_wp2_with fail
      refine (H2.out _).mono ?_
      rintro e w3 ⟨rfl, k3⟩
      have s3 := Lib.hid (s2.out.kp k3)
      have K3 := Lib.hid (K2.out.then k3)
      go_wp2_with fail
      go_meet
      exact ⟨rfl, K3, s3⟩
    · cases ib
      · obtain rfl : b = false := HI.out
        go_wp2_with fail
        refine (H2.out _).mono ?_
        rintro e w3 ⟨rfl, k3⟩
        have s3 := Lib.hid (s2.out.kp k3)
        have K3 := Lib.hid (K2.out.then k3)
        clear b0 b1 b2 b3 b4 b5 k3
        obtain ⟨b0, b1, b2, b3, b4, b5⟩ := has6 s3.out
        go_wp2_with fail
        refine (H3.out _).mono ?_
        rintro e w4 ⟨rfl, k4⟩
        have s4 := Lib.hid (s3.out.kp k4)
        have K4 := Lib.hid (K3.out.then k4)
        go_wp2_with fail
        go_meet
        exact ⟨rfl, K4, s4⟩
      · have HI2 : Hid (b = decide (0 < n)) := HI.out
        go_wp2_with fail
        refine (H2.out _).mono ?_
        rintro e w3 ⟨rfl, k3⟩
        have s3 := Lib.hid (s2.out.kp k3)
        have K3 := Lib.hid (K2.out.then k3)
        clear b0 b1 b2 b3 b4 b5 k3
        obtain ⟨b0, b1, b2, b3, b4, b5⟩ := has6 s3.out
        go_wp2_with fail
        refine (H3.out _).mono ?_
        rintro e w4 ⟨rfl, k4⟩
        have s4 := Lib.hid (s3.out.kp k4)
        have K4 := Lib.hid (K3.out.then k4)
        clear b0 b1 b2 b3 b4 b5 k4
        obtain ⟨b0, b1, b2, b3, b4, b5⟩ := has6 s4.out
        go_wp2_with fail
        refine (H4.out _).mono ?_
        rintro e w5 ⟨rfl, k5⟩
        have s5 := Lib.hid (s4.out.kp k5)
        have K5 := Lib.hid (K4.out.then k5)
        by_cases hn : 0 < n
        · obtain rfl : b = true := HI2.out.trans (decide_eq_true hn)
          go_wp2_with fail
          go_meet
          exact ⟨rfl, K5, s5⟩
        · obtain rfl : b = false := HI2.out.trans (decide_eq_false hn)
          have t1 : decide (0 < n) = false := decide_eq_false hn
          go_wp2_with fail
          go_meet
          exact ⟨rfl, K5, s5⟩
  case rest =>
    obtain ⟨rfl, HK, HS⟩ := hcut
    clear K2 s2 H2 H3 H4
    obtain ⟨b0, b1, b2, b3, b4, b5⟩ := has6 (HS.out.alloc (.cells #[.int .i64 x, .int .i64 y, .int .i64 z] 23))
    have hc : x < ax ∨ (ax ≤ x ∧ bx < x) ∨ ((ax ≤ x ∧ x ≤ bx) ∧ y < ay) ∨ ((ax ≤ x ∧ x ≤ bx) ∧ ay ≤ y ∧ by' < y) ∨ ((ax ≤ x ∧ x ≤ bx) ∧ (ay ≤ y ∧ y ≤ by') ∧ z < az) ∨ ((ax ≤ x ∧ x ≤ bx) ∧ (ay ≤ y ∧ y ≤ by') ∧ az ≤ z ∧ bz < z) ∨ ((ax ≤ x ∧ x ≤ bx) ∧ (ay ≤ y ∧ y ≤ by') ∧ az ≤ z ∧ z ≤ bz) := by omega
    rcases hc with h | ⟨h1, h⟩ | ⟨⟨h1, h2⟩, h⟩ | ⟨⟨h1, h2⟩, h3, h⟩ | ⟨⟨h1, h2⟩, ⟨h3, h4⟩, h⟩ | ⟨⟨h1, h2⟩, ⟨h3, h4⟩, h5, h⟩ | ⟨⟨h1, h2⟩, ⟨h3, h4⟩, h5, h6⟩
    · go_wp2_with fail
      go_ret
      exact ⟨rfl, HK.out.alloc _⟩
    · have t1 : decide (x < ax) = false := by simpa using h1
      go_wp2_with fail
      go_ret
      exact ⟨rfl, HK.out.alloc _⟩
    · have t1 : decide (x < ax) = false := by simpa using h1
      have t2 : decide (bx < x) = false := by simpa using h2
      go_wp2_with fail
      go_ret
      exact ⟨rfl, HK.out.alloc _⟩
    · have t1 : decide (x < ax) = false := by simpa using h1
      have t2 : decide (bx < x) = false := by simpa using h2
      have t3 : decide (y < ay) = false := by simpa using h3
      go_wp2_with fail
      go_ret
      exact ⟨rfl, HK.out.alloc _⟩
    · have t1 : decide (x < ax) = false := by simpa using h1
      have t2 : decide (bx < x) = false := by simpa using h2
      have t3 : decide (y < ay) = false := by simpa using h3
      have t4 : decide (by' < y) = false := by simpa using h4
      go_wp2_with fail
      go_ret
      exact ⟨rfl, HK.out.alloc _⟩
    · have t1 : decide (x < ax) = false := by simpa using h1
      have t2 : decide (bx < x) = false := by simpa using h2
      have t3 : decide (y < ay) = false := by simpa using h3
      have t4 : decide (by' < y) = false := by simpa using h4
      have t5 : decide (z < az) = false := by simpa using h5
      go_wp2_with fail
      go_ret
      exact ⟨rfl, HK.out.alloc _⟩
    · have t1 : decide (x < ax) = false := by simpa using h1
      have t2 : decide (bx < x) = false := by simpa using h2
      have t3 : decide (y < ay) = false := by simpa using h3
      have t4 : decide (by' < y) = false := by simpa using h4
      have t5 : decide (z < az) = false := by simpa using h5
      have t6 : decide (bz < z) = false := by simpa using h6
      cases b
      · go_wp2_with fail
        go_ret
        exact ⟨rfl, HK.out.alloc _⟩
      · have hab : ia = true ∧ ib = true := by
          have := HI.out
          cases ia
          · cases this
          · cases ib
            · cases this
            · exact ⟨rfl, rfl⟩
        have hA := HA.out hab.1
        have hB := HB.out hab.2
        have HIn : Hid (inS x y z = true) := inS_true.2 (by omega)
        clear hA hB hab
        go_wp2_with fail
        refine (grid_In _ _ _ _).mono ?_
        rintro e w3 ⟨rfl, k3⟩
        rw [HIn.out]
        go_wp2_with fail
        go_ret
        exact ⟨rfl, (HK.out.alloc _).then k3⟩
end Go.Proofs.Ythjbapjmlkbeoaa
