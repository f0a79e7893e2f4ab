/- The walks of the reference: In, Chunk, Index, Cell, above, far, Inside. -/
import Derived.Test.YthjbapjmlkbeoaaGridInside
import Derived.Test.YthjbapjmlkbeoaaRefDiv
namespace Go.Proofs.Ythjbapjmlkbeoaa
open Go.RowKit
set_option linter.unusedVariables false
set_option linter.unusedSimpArgs false

set_option maxRecDepth 20000 in
set_option maxHeartbeats 4000000 in
theorem ref_In (x y z : Int) (w : World) :
    Calls Try.prog 13 #[.agg #[.int .i64 x, .int .i64 y, .int .i64 z]] w fun e w' => e = .returned (.bool (inS x y z)) ∧ Kp [] w w' := by
  by_cases hall : (-1048576 ≤ x ∧ x ≤ 1048576) ∧ (-1048576 ≤ z ∧ z ≤ 1048576) ∧ 0 ≤ y ∧ y ≤ 127
  · have HR : Hid (inS x y z = true) := inS_true.2 hall
    obtain ⟨⟨h1, h2⟩, ⟨h3, h4⟩, h5, h6⟩ := hall
    have h6' : y < 128 := by omega
    go_enter Try.func13, Try.ntmps13
    go_wp2
    go_ret
    exact ⟨ret_bool HR.out.symm, (Kp.refl _ _).alloc _⟩
  · have HR : Hid (inS x y z = false) := by
      show _ = _
      rw [← Bool.not_eq_true, inS_true]
      exact hall
    by_cases h1 : -1048576 ≤ x
    · by_cases h2 : x ≤ 1048576
      · by_cases h3 : -1048576 ≤ z
        · by_cases h4 : z ≤ 1048576
          · by_cases h5 : 0 ≤ y
            · have h6 : decide (y < 128) = false := by simp; omega
              clear hall
              go_enter Try.func13, Try.ntmps13
              go_wp2
              go_ret
              exact ⟨ret_bool HR.out.symm, (Kp.refl _ _).alloc _⟩
            · have h6 : decide (0 ≤ y) = false := by simpa using h5
              clear hall h5
              go_enter Try.func13, Try.ntmps13
              go_wp2
              go_ret
              exact ⟨ret_bool HR.out.symm, (Kp.refl _ _).alloc _⟩
          · have h6 : decide (z ≤ 1048576) = false := by simpa using h4
            clear hall h4
            go_enter Try.func13, Try.ntmps13
            go_wp2
            go_ret
            exact ⟨ret_bool HR.out.symm, (Kp.refl _ _).alloc _⟩
        · have h6 : decide (-1048576 ≤ z) = false := by simpa using h3
          clear hall h3
          go_enter Try.func13, Try.ntmps13
          go_wp2
          go_ret
          exact ⟨ret_bool HR.out.symm, (Kp.refl _ _).alloc _⟩
      · have h6 : decide (x ≤ 1048576) = false := by simpa using h2
        clear hall h2
        go_enter Try.func13, Try.ntmps13
        go_wp2
        go_ret
        exact ⟨ret_bool HR.out.symm, (Kp.refl _ _).alloc _⟩
    · have h6 : decide (-1048576 ≤ x) = false := by simpa using h1
      clear hall h1
      go_enter Try.func13, Try.ntmps13
      go_wp2
      go_ret
      exact ⟨ret_bool HR.out.symm, (Kp.refl _ _).alloc _⟩

set_option maxHeartbeats 800000 in
theorem ref_Chunk (x y z : Int) (w : World) (hx : I64 x) (hz : I64 z) :
    Calls Try.prog 15 #[.agg #[.int .i64 x, .int .i64 y, .int .i64 z]] w fun e w' => e = .returned (.agg #[.int .i64 (fdiv x 16), .int .i64 (fdiv z 16)]) ∧ Kp [] w w' := by
  go_enter Try.func15, Try.ntmps15
  go_wp2
  go_region_with (go_at_call 30; refine (ref_Div _ _ _ (by assumption)).mono ?_; rintro e w' ⟨rfl, rfl⟩)
  all_goals
    go_wp2
    exact bodyPost_ret (v := .agg #[.int .i64 (fdiv x 16), .int .i64 (fdiv z 16)]) (by simp [results, Try.results15, go_sem]) rfl ⟨rfl, (((Kp.refl [] w).alloc _).alloc _).drew⟩

set_option maxHeartbeats 800000 in
theorem ref_Index (x y z : Int) (w : World) :
    Calls Try.prog 17 #[.agg #[.int .i64 x, .int .i64 y, .int .i64 z]] w fun e w' => e = .returned (.int .i64 (idxS x y z)) ∧ Kp [] w w' := by
  cases hb : wthn y 0 127
  · have H : Hid (idxS x y z = -1) := by show idxS x y z = _; rw [idxS, hb]; rfl
    have hy := wthn_false.1 hb
    clear hb
    by_cases h1 : y < 0
    · clear hy
      go_enter Try.func17, Try.ntmps17
      go_wp2
      go_ret
      exact ⟨ret_int H.out.symm, (Kp.refl _ _).alloc _⟩
    · have h2 : 128 ≤ y := by omega
      have h3 : decide (y < 0) = false := by simpa using h1
      clear hy h1
      go_enter Try.func17, Try.ntmps17
      go_wp2
      go_ret
      exact ⟨ret_int H.out.symm, (Kp.refl _ _).alloc _⟩
  · have H : Hid (idxS x y z = y * 256 + fmod z 16 * 16 + fmod x 16) := by show idxS x y z = _; rw [idxS, hb]; rfl
    have hy := wthn_true.1 hb
    have hz := emod_range (a := z) (b := 16) (by omega)
    have hx := emod_range (a := x) (b := 16) (by omega)
    rw [← fmod16] at hx hz
    obtain ⟨hy1, hy2⟩ := hy
    obtain ⟨hz1, hz2⟩ := hz
    obtain ⟨hx1, hx2⟩ := hx
    have t1 : decide (y < 0) = false := by simp; omega
    have t2 : decide (128 ≤ y) = false := by simp; omega
    have e1 : IntKind.i64.wrap (y * 256) = y * 256 := IntWalk.i64_in _ (by omega)
    have e2 : IntKind.i64.wrap (fmod z 16 * 16) = fmod z 16 * 16 := IntWalk.i64_in _ (by omega)
    have e3 : IntKind.i64.wrap (y * 256 + fmod z 16 * 16) = y * 256 + fmod z 16 * 16 := IntWalk.i64_in _ (by omega)
    have e4 : IntKind.i64.wrap (y * 256 + fmod z 16 * 16 + fmod x 16) = y * 256 + fmod z 16 * 16 + fmod x 16 := IntWalk.i64_in _ (by omega)
    have hI : I64 16 := ⟨by omega, by omega⟩
    have HI := Lib.hid hI
    clear hI hb
    go_enter Try.func17, Try.ntmps17
    go_wp2
    go_quiet ((go_at_call 32; exact Calls.quiet_of_same ((ref_Mod _ _ _ HI.out).mono (fun _ _ h => ⟨h.1, h.2.symm⟩))))
    go_wp2
    go_ret
    exact ⟨ret_int H.out.symm, ((Kp.refl _ _).alloc _).drewN _⟩

set_option maxHeartbeats 800000 in
theorem ref_Cell (cx cz i : Int) (w : World) :
    Calls Try.prog 19 #[.agg #[.int .i64 cx, .int .i64 cz], .int .i64 i] w fun e w' => e = .returned (.agg #[.int .i64 (cellX cx i), .int .i64 (cellY i), .int .i64 (cellZ cz i)]) ∧ Kp [] w w' := by
  cases hb : wthn i 0 32767
  · have HX : Hid (cellX cx i = 0) := by show _ = _; rw [cellX, hb]; rfl
    have HY : Hid (cellY i = 0) := by show _ = _; rw [cellY, hb]; rfl
    have HZ : Hid (cellZ cz i = 0) := by show _ = _; rw [cellZ, hb]; rfl
    have hy := wthn_false.1 hb
    clear hb
    by_cases h1 : i < 0
    · clear hy
      go_enter Try.func19, Try.ntmps19
      go_wp2
      exact bodyPost_ret (v := .agg #[.int .i64 0, .int .i64 0, .int .i64 0]) (by simp [results, Try.results19, go_sem]) rfl ⟨by rw [HX.out, HY.out, HZ.out], ((Kp.refl [] w).alloc _).alloc _⟩
    · have h2 : 32768 ≤ i := by omega
      have h3 : decide (i < 0) = false := by simpa using h1
      clear hy h1
      go_enter Try.func19, Try.ntmps19
      go_wp2
      exact bodyPost_ret (v := .agg #[.int .i64 0, .int .i64 0, .int .i64 0]) (by simp [results, Try.results19, go_sem]) rfl ⟨by rw [HX.out, HY.out, HZ.out], ((Kp.refl [] w).alloc _).alloc _⟩
  · have HX : Hid (cellX cx i = wrap64 (wrap64 (cx * 16) + i % 16)) := by show _ = _; rw [cellX, hb]; rfl
    have HY : Hid (cellY i = i / 256) := by show _ = _; rw [cellY, hb]; rfl
    have HZ : Hid (cellZ cz i = wrap64 (wrap64 (cz * 16) + i / 16 % 16)) := by show _ = _; rw [cellZ, hb]; rfl
    obtain ⟨hi1, hi2⟩ := wthn_true.1 hb
    have t1 : decide (i < 0) = false := by simp; omega
    have t2 : decide (32768 ≤ i) = false := by simp; omega
    clear hb
    go_enter Try.func19, Try.ntmps19
    go_wp2
    exact bodyPost_ret (v := .agg #[.int .i64 (wrap64 (wrap64 (cx * 16) + i % 16)), .int .i64 (i / 256), .int .i64 (wrap64 (wrap64 (cz * 16) + i / 16 % 16))]) (by simp [results, Try.results19, go_sem]) rfl ⟨by rw [HX.out, HY.out, HZ.out], ((Kp.refl [] w).alloc _).alloc _⟩
end Go.Proofs.Ythjbapjmlkbeoaa
