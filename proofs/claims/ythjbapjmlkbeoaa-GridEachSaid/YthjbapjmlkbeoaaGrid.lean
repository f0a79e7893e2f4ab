/- The walks of grid.within, In, Chunk, Index, Cell. -/
import Derived.Deep.RegionWith
import Derived.BigQuiet
import Derived.Test.YthjbapjmlkbeoaaNumDiv
namespace Go.Proofs.Ythjbapjmlkbeoaa
open Go.RowKit
set_option linter.unusedVariables false
set_option linter.unusedSimpArgs false

def wthn (v lo hi : Int) : Bool := decide (lo ≤ v) && decide (v ≤ hi)
theorem wthn_true {v lo hi : Int} : wthn v lo hi = true ↔ lo ≤ v ∧ v ≤ hi := by simp [wthn]
theorem wthn_false {v lo hi : Int} : wthn v lo hi = false ↔ ¬ (lo ≤ v ∧ v ≤ hi) := by
  rw [← wthn_true]
  simp

theorem grid_within (v lo hi : Int) (w : World) :
    Calls Try.prog 28 #[.int .i64 v, .int .i64 lo, .int .i64 hi] w fun e w' => e = .returned (.bool (wthn v lo hi)) ∧ w = w' := by
  by_cases h1 : lo ≤ v
  · by_cases h2 : v ≤ hi
    · have H : Hid (wthn v lo hi = true) := wthn_true.2 ⟨h1, h2⟩
      go_enter Try.func28, Try.ntmps28
      go_wp2
      go_ret
      exact ⟨ret_bool H.out.symm, rfl⟩
    · have H : Hid (wthn v lo hi = false) := wthn_false.2 (fun h => h2 h.2)
      have hb : decide (v ≤ hi) = false := by simpa using h2
      go_enter Try.func28, Try.ntmps28
      go_wp2
      go_ret
      exact ⟨ret_bool H.out.symm, rfl⟩
  · have H : Hid (wthn v lo hi = false) := wthn_false.2 (fun h => h1 h.1)
    have hb : decide (lo ≤ v) = false := by simpa using h1
    go_enter Try.func28, Try.ntmps28
    go_wp2
    go_ret
    exact ⟨ret_bool H.out.symm, rfl⟩

def inS (x y z : Int) : Bool := wthn x (-1048576) 1048576 && wthn z (-1048576) 1048576 && wthn y 0 127
theorem inS_true {x y z : Int} : inS x y z = true ↔ (-1048576 ≤ x ∧ x ≤ 1048576) ∧ (-1048576 ≤ z ∧ z ≤ 1048576) ∧ 0 ≤ y ∧ y ≤ 127 := by
  unfold inS
  rw [Bool.and_eq_true, Bool.and_eq_true, wthn_true, wthn_true, wthn_true, and_assoc]

theorem grid_In (x y z : Int) (w : World) :
    Calls Try.prog 12 #[.agg #[.int .i64 x, .int .i64 y, .int .i64 z]] w fun e w' => e = .returned (.bool (inS x y z)) ∧ Kp [] w w' := by
  cases ha : wthn x (-1048576) 1048576
  · have H : Hid (inS x y z = false) := by show inS x y z = false; rw [inS, ha]; rfl
    go_enter Try.func12, Try.ntmps12
    go_wp2_with (go_at_call 28; refine (grid_within _ _ _ _).mono ?_; rintro e w' ⟨rfl, rfl⟩)
    go_ret
    exact ⟨ret_bool H.out.symm, (Kp.refl _ _).alloc _⟩
  · cases hb : wthn z (-1048576) 1048576
    · have H : Hid (inS x y z = false) := by show inS x y z = false; rw [inS, ha, hb]; rfl
      go_enter Try.func12, Try.ntmps12
      go_wp2_with (go_at_call 28; refine (grid_within _ _ _ _).mono ?_; rintro e w' ⟨rfl, rfl⟩)
      go_ret
      exact ⟨ret_bool H.out.symm, (Kp.refl _ _).alloc _⟩
    · have H : Hid (inS x y z = wthn y 0 127) := by show inS x y z = _; rw [inS, ha, hb]; rfl
      go_enter Try.func12, Try.ntmps12
      go_wp2_with (go_at_call 28; refine (grid_within _ _ _ _).mono ?_; rintro e w' ⟨rfl, rfl⟩)
      go_ret
      exact ⟨ret_bool H.out.symm, (Kp.refl _ _).alloc _⟩

set_option maxHeartbeats 800000 in
theorem grid_Chunk (x y z : Int) (w : World) (hx : I64 x) (hz : I64 z) :
    Calls Try.prog 14 #[.agg #[.int .i64 x, .int .i64 y, .int .i64 z]] w fun e w' => e = .returned (.agg #[.int .i64 (fdiv x 16), .int .i64 (fdiv z 16)]) ∧ Kp [] w w' := by
  go_enter Try.func14, Try.ntmps14
  go_wp2
  go_region_with (go_at_call 29; refine (num_Div _ _ _ (by assumption)).mono ?_; rintro e w' ⟨rfl, rfl⟩)
  all_goals
    go_wp2
    exact bodyPost_ret (v := .agg #[.int .i64 (fdiv x 16), .int .i64 (fdiv z 16)]) (by simp [results, Try.results14, go_sem]) rfl ⟨rfl, (((Kp.refl [] w).alloc _).alloc _).drew⟩

def idxS (x y z : Int) : Int := if wthn y 0 127 = true then y * 256 + fmod z 16 * 16 + fmod x 16 else -1
theorem fmod16 (a : Int) : fmod a 16 = a % 16 := if_neg (by omega)
theorem fdiv16 (a : Int) : fdiv a 16 = a / 16 := if_neg (by omega)

set_option maxHeartbeats 800000 in
theorem grid_Index (x y z : Int) (w : World) :
    Calls Try.prog 16 #[.agg #[.int .i64 x, .int .i64 y, .int .i64 z]] w fun e w' => e = .returned (.int .i64 (idxS x y z)) ∧ Kp [] w w' := by
  cases hb : wthn y 0 127
  · have H : Hid (idxS x y z = -1) := by show idxS x y z = _; rw [idxS, hb]; rfl
    go_enter Try.func16, Try.ntmps16
    go_wp2_with (go_at_call 28; refine (grid_within _ _ _ _).mono ?_; rintro e w' ⟨rfl, rfl⟩)
    go_ret
    exact ⟨ret_int H.out.symm, (Kp.refl _ _).alloc _⟩
  · have H : Hid (idxS x y z = y * 256 + fmod z 16 * 16 + fmod x 16) := by show idxS x y z = _; rw [idxS, hb]; rfl
    have hy := wthn_true.1 hb
    have hz := emod_range (a := z) (b := 16) (by omega)
    have hx := emod_range (a := x) (b := 16) (by omega)
    rw [← fmod16] at hx hz
    obtain ⟨hy1, hy2⟩ := hy
    obtain ⟨hz1, hz2⟩ := hz
    obtain ⟨hx1, hx2⟩ := hx
    have e1 : IntKind.i64.wrap (y * 16) = y * 16 := IntWalk.i64_in _ (by omega)
    have e2 : IntKind.i64.wrap (y * 16 + fmod z 16) = y * 16 + fmod z 16 := IntWalk.i64_in _ (by omega)
    have e3 : IntKind.i64.wrap ((y * 16 + fmod z 16) * 16) = (y * 16 + fmod z 16) * 16 := IntWalk.i64_in _ (by omega)
    have e4 : IntKind.i64.wrap ((y * 16 + fmod z 16) * 16 + fmod x 16) = (y * 16 + fmod z 16) * 16 + fmod x 16 := IntWalk.i64_in _ (by omega)
    have hI : I64 16 := ⟨by omega, by omega⟩
    have HI := Lib.hid hI
    clear hI
    go_enter Try.func16, Try.ntmps16
    go_wp2_with (go_at_call 28; refine (grid_within _ _ _ _).mono ?_; rintro e w' ⟨rfl, rfl⟩)
    go_quiet ((go_at_call 31; exact Calls.quiet_of_same ((num_Mod _ _ _ HI.out).mono (fun _ _ h => ⟨h.1, h.2.symm⟩))))
    go_wp2
    go_ret
    refine ⟨ret_int (by rw [H.out]; omega), ?_⟩
    exact ((Kp.refl _ _).alloc _).drewN _

def cellX (cx i : Int) : Int := if wthn i 0 32767 = true then wrap64 (wrap64 (cx * 16) + i % 16) else 0
def cellY (i : Int) : Int := if wthn i 0 32767 = true then i / 256 else 0
def cellZ (cz i : Int) : Int := if wthn i 0 32767 = true then wrap64 (wrap64 (cz * 16) + i / 16 % 16) else 0

set_option maxHeartbeats 800000 in
theorem grid_Cell (cx cz i : Int) (w : World) :
    Calls Try.prog 18 #[.agg #[.int .i64 cx, .int .i64 cz], .int .i64 i] w fun e w' => e = .returned (.agg #[.int .i64 (cellX cx i), .int .i64 (cellY i), .int .i64 (cellZ cz i)]) ∧ Kp [] w w' := by
  cases hb : wthn i 0 32767
  · have HX : Hid (cellX cx i = 0) := by show _ = _; rw [cellX, hb]; rfl
    have HY : Hid (cellY i = 0) := by show _ = _; rw [cellY, hb]; rfl
    have HZ : Hid (cellZ cz i = 0) := by show _ = _; rw [cellZ, hb]; rfl
    go_enter Try.func18, Try.ntmps18
    go_wp2_with (go_at_call 28; refine (grid_within _ _ _ _).mono ?_; rintro e w' ⟨rfl, rfl⟩)
    exact bodyPost_ret (v := .agg #[.int .i64 0, .int .i64 0, .int .i64 0]) (by simp [results, Try.results18, go_sem]) rfl ⟨by rw [HX.out, HY.out, HZ.out], ((Kp.refl [] w).alloc _).alloc _⟩
  · have HX : Hid (cellX cx i = wrap64 (wrap64 (cx * 16) + i % 16)) := by show _ = _; rw [cellX, hb]; rfl
    have HY : Hid (cellY i = i / 256) := by show _ = _; rw [cellY, hb]; rfl
    have HZ : Hid (cellZ cz i = wrap64 (wrap64 (cz * 16) + i / 16 % 16)) := by show _ = _; rw [cellZ, hb]; rfl
    obtain ⟨hi1, hi2⟩ := wthn_true.1 hb
    go_enter Try.func18, Try.ntmps18
    go_wp2_with (go_at_call 28; refine (grid_within _ _ _ _).mono ?_; rintro e w' ⟨rfl, rfl⟩)
    exact bodyPost_ret (v := .agg #[.int .i64 (wrap64 (wrap64 (cx * 16) + i % 16)), .int .i64 (i / 256), .int .i64 (wrap64 (wrap64 (cz * 16) + i / 16 % 16))]) (by simp [results, Try.results18, go_sem]) rfl ⟨by rw [HX.out, HY.out, HZ.out], ((Kp.refl [] w).alloc _).alloc _⟩
end Go.Proofs.Ythjbapjmlkbeoaa
