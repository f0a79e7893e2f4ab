/- strata.At: the block of a cell, off the table of soils. -/
import Derived.Test.YtmliknefakoplaaDoorBaseLaid
import Derived.Test.YtmliknefakoplaaDoorDiv
namespace Go.Proofs.YtmliknefakoplaaDoor
open Go.RowKit
set_option linter.unusedVariables false
set_option linter.unusedSimpArgs false

/-- The table of soils holds what the text lays. -/
def Soils (w : World) : Prop := ∀ (j : Nat) (v : Int), [3, 2, 44, 2, 3, 2, 44, 2, 4, 4, 0, 4, 1, 6, 71, 1][j]? = some v → w.cell? ⟨0, j, none⟩ = some (.int .i64 v)
theorem Soils.kp {w w' : World} (h : Soils w) (k : Kp [] w w') : Soils w' := fun j v hj => k.cell (h j v hj) (by simp)

theorem soils_named : Tryd.prog.globalNamed "outcrop/strata.soils" = some 0 := by kernel_rfl
theorem soils_type : (Tryd.prog.globals[0]?).map (·.type) = some 49 := by kernel_rfl

theorem soils_of_laid {W : World} (h : laidMetH Tryd.prog [("outcrop/strata.soils", Rows.laid_outcrop_strata_soils)] W) : Soils W := by
  rw [MakeChecks.laidMetH_plain _ _ _ (by kernel_rfl)] at h
  obtain ⟨ps, ⟨g0, t0, cs0, f0, p0, q0, hg0, ht0, hv0, hd0, _, _⟩, _, _⟩ := h
  obtain rfl := Option.some.inj (soils_named.symm.trans hg0)
  obtain rfl := Option.some.inj (soils_type.symm.trans ht0)
  have hr := (trod_rows4 (rows := [(3, 2, 44, 2), (3, 2, 44, 2), (4, 4, 0, 4), (1, 6, 71, 1)]) Tryd.underlying49 Tryd.underlying48 (by kernel_rfl) (by kernel_rfl) Tryd.underlying3 (by kernel_rfl) ⟨rfl, rfl⟩ ⟨rfl, rfl⟩ ⟨rfl, rfl⟩ ⟨rfl, rfl⟩ hd0).2
  intro j v hj
  rw [World.var?_cell soils_named hv0 j, ← Array.getElem?_toList]
  have r0 := hr 0 _ rfl
  have r1 := hr 1 _ rfl
  have r2 := hr 2 _ rfl
  have r3 := hr 3 _ rfl
  match j, hj with
  | 0, hj => injection hj with hj; subst hj; exact r0.1
  | 1, hj => injection hj with hj; subst hj; exact r0.2.1
  | 2, hj => injection hj with hj; subst hj; exact r0.2.2.1
  | 3, hj => injection hj with hj; subst hj; exact r0.2.2.2
  | 4, hj => injection hj with hj; subst hj; exact r1.1
  | 5, hj => injection hj with hj; subst hj; exact r1.2.1
  | 6, hj => injection hj with hj; subst hj; exact r1.2.2.1
  | 7, hj => injection hj with hj; subst hj; exact r1.2.2.2
  | 8, hj => injection hj with hj; subst hj; exact r2.1
  | 9, hj => injection hj with hj; subst hj; exact r2.2.1
  | 10, hj => injection hj with hj; subst hj; exact r2.2.2.1
  | 11, hj => injection hj with hj; subst hj; exact r2.2.2.2
  | 12, hj => injection hj with hj; subst hj; exact r3.1
  | 13, hj => injection hj with hj; subst hj; exact r3.2.1
  | 14, hj => injection hj with hj; subst hj; exact r3.2.2.1
  | 15, hj => injection hj with hj; subst hj; exact r3.2.2.2
  | j + 16, hj => simp at hj

/-- The block of a cell. -/
def atS (h band y : Int) : Int :=
  if h < 0 ∨ 128 ≤ h ∨ y < 0 ∨ 128 ≤ y ∨ band < 0 ∨ 4 ≤ band then 0 else if y = 0 then 15 else if h < y then (if y ≤ 44 then 5 else 0) else if y < h - 3 then 1
  else if band = 2 then 4 else if band = 3 then (if y = h ∧ h ≤ 70 then 6 else 1) else if y = h ∧ 44 ≤ h then 3 else 2

set_option maxHeartbeats 400000 in
theorem strata_cell (y : Int) (w : World) :
    Calls Tryd.prog 18 #[.int .i64 y] w fun e w' => e = .returned (.bool (decide (0 ≤ y ∧ y < 128))) ∧ w = w' := by
  by_cases h1 : 0 ≤ y
  · by_cases h2 : y < 128
    all_goals
      go_enter Tryd.func18, Tryd.ntmps18
      go_wp2
      go_ret
      exact ⟨ret_bool (by rw [Bool.eq_iff_iff]; simp <;> omega), rfl⟩
  · go_enter Tryd.func18, Tryd.ntmps18
    go_wp2
    go_ret
    exact ⟨ret_bool (by rw [Bool.eq_iff_iff]; simp <;> omega), rfl⟩

set_option maxHeartbeats 400000 in
theorem strata_may (h band : Int) (w : World) :
    Calls Tryd.prog 17 #[.int .i64 h, .int .i64 band] w fun e w' => e = .returned (.bool (decide (0 ≤ h ∧ h < 128 ∧ 0 ≤ band ∧ band < 4))) ∧ w = w' := by
  by_cases h1 : 0 ≤ h ∧ h < 128
  · have hb := decide_eq_true h1
    by_cases h2 : 0 ≤ band
    · by_cases h3 : band < 4
      all_goals
        go_enter Tryd.func17, Tryd.ntmps17
        go_wp2_with (go_at_call 18; refine (strata_cell _ _).mono ?_; rintro e w1 ⟨rfl, rfl⟩)
        go_ret
        exact ⟨ret_bool (by rw [Bool.eq_iff_iff]; simp <;> omega), rfl⟩
    · go_enter Tryd.func17, Tryd.ntmps17
      go_wp2_with (go_at_call 18; refine (strata_cell _ _).mono ?_; rintro e w1 ⟨rfl, rfl⟩)
      go_ret
      exact ⟨ret_bool (by rw [Bool.eq_iff_iff]; simp <;> omega), rfl⟩
  · have hb := decide_eq_false h1
    have HB := Lib.hid h1
    clear h1
    go_enter Tryd.func17, Tryd.ntmps17
    go_wp2_with (go_at_call 18; refine (strata_cell _ _).mono ?_; rintro e w1 ⟨rfl, rfl⟩)
    go_ret
    have := HB.out
    exact ⟨ret_bool (by rw [Bool.eq_iff_iff]; simp <;> omega), rfl⟩

theorem atS_out {h band y : Int} (hb : ¬ (0 ≤ h ∧ h < 128 ∧ 0 ≤ band ∧ band < 4 ∧ 0 ≤ y ∧ y < 128)) : atS h band y = 0 := by
  unfold atS
  rw [if_pos (by omega)]

set_option maxRecDepth 20000 in
set_option maxHeartbeats 2000000 in
theorem strata_At (h band y : Int) (w : World) (hs : Soils w) :
    Calls Tryd.prog 8 #[.int .i64 h, .int .i64 band, .int .i64 y] w fun e w' => e = .returned (.int .i64 (atS h band y)) ∧ Kp [] w w' := by
  by_cases hm : 0 ≤ h ∧ h < 128 ∧ 0 ≤ band ∧ band < 4
  · by_cases hy : 0 ≤ y ∧ y < 128
    · have hmb := decide_eq_true hm
      have hyb := decide_eq_true hy
      obtain ⟨m1, m2, m3, m4⟩ := hm
      obtain ⟨y1, y2⟩ := hy
      have hband : band = 0 ∨ band = 1 ∨ band = 2 ∨ band = 3 := by omega
      rcases hband with rfl | rfl | rfl | rfl
      all_goals
        have s0 := hs 0 3 rfl
        have s1 := hs 1 2 rfl
        have s2 := hs 2 44 rfl
        have s3 := hs 3 2 rfl
        have s4 := hs 4 3 rfl
        have s5 := hs 5 2 rfl
        have s6 := hs 6 44 rfl
        have s7 := hs 7 2 rfl
        have s8 := hs 8 4 rfl
        have s9 := hs 9 4 rfl
        have s10 := hs 10 0 rfl
        have s11 := hs 11 4 rfl
        have s12 := hs 12 1 rfl
        have s13 := hs 13 6 rfl
        have s14 := hs 14 71 rfl
        have s15 := hs 15 1 rfl
        go_enter Tryd.func8, Tryd.ntmps8
        go_wp2_with (first | (go_at_call 17; refine (strata_may _ _ _).mono ?_; rintro e w1 ⟨rfl, rfl⟩) | (go_at_call 18; refine (strata_cell _ _).mono ?_; rintro e w1 ⟨rfl, rfl⟩))
        all_goals
          go_ret
          refine ⟨ret_int ?_, (Kp.refl _ _).alloc _⟩
          (try simp only [beq_eq_false_iff_ne, beq_iff_eq, ne_eq, decide_eq_true_eq, decide_eq_false_iff_not] at *)
          unfold atS
          (repeat' split) <;> first | rfl | omega
    · have hz := atS_out (h := h) (band := band) (y := y) (by omega)
      have HZ := Lib.hid hz
      have hmb := decide_eq_true hm
      have hyb := decide_eq_false hy
      have HY := Lib.hid hy
      clear hz hm hy
      go_enter Tryd.func8, Tryd.ntmps8
      go_wp2_with (first | (go_at_call 17; refine (strata_may _ _ _).mono ?_; rintro e w1 ⟨rfl, rfl⟩) | (go_at_call 18; refine (strata_cell _ _).mono ?_; rintro e w1 ⟨rfl, rfl⟩))
      go_ret
      exact ⟨ret_int HZ.out.symm, Kp.refl _ _⟩
  · have hz := atS_out (h := h) (band := band) (y := y) (by omega)
    have HZ := Lib.hid hz
    have hmb := decide_eq_false hm
    clear hz hm
    go_enter Tryd.func8, Tryd.ntmps8
    go_wp2_with (first | (go_at_call 17; refine (strata_may _ _ _).mono ?_; rintro e w1 ⟨rfl, rfl⟩) | (go_at_call 18; refine (strata_cell _ _).mono ?_; rintro e w1 ⟨rfl, rfl⟩))
    go_ret
    exact ⟨ret_int HZ.out.symm, Kp.refl _ _⟩
end Go.Proofs.YtmliknefakoplaaDoor
