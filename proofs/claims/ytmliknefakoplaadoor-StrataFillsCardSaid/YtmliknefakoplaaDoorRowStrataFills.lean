/- The row of StrataFills, out of its walk. -/
import Derived.Test.YtmliknefakoplaaDoorLawSFills
import Derived.Test.YtmliknefakoplaaDoorCards
import Derived.Test.YtmliknefakoplaaDoorTie
namespace Go.Proofs.YtmliknefakoplaaDoor
open Go.RowKit Go.ChangeShapes Go.WideShapes Go.ChangeAt
set_option linter.unusedVariables false
set_option linter.unusedSimpArgs false

theorem strataFills_own : ownKnob Tryd.prog.godebug = none := by kernel_rfl
theorem strataFills_laidOut : laidOutB Tryd.prog = true := by kernel_rfl

theorem strataFills_door (os : Os) (args : Array Value) : laidMetH Tryd.prog [("outcrop/strata.soils", Rows.laid_outcrop_strata_soils)] ((World.doorLaid Tryd.prog 400 os).forCall (fun _ _ => 0) ⟨#[], args, []⟩).memory := by
  rw [MakeChecks.laidMetH_plain _ _ _ (by kernel_rfl)]
  exact laidMet_of_run' 8 (by kernel_rfl) (by kernel_rfl)

set_option maxRecDepth 100000 in
theorem strataFills_lifted (os : Os) (started : os.Started) (H : Type) (enc : TypeId × Value → H) :
    ReturnsInHanded {} Tryd.checked os 5 .any (fun w args => (Rows.strataFillsSpec.pre enc Tryd.prog Tryd.f5 [] false w args ∧ laidMetH Tryd.prog [("outcrop/strata.soils", Rows.laid_outcrop_strata_soils)] w) ∧ sizedMet enc Tryd.prog Tryd.f5 (OpenSpec.ofChange Rows.strataFillsSpec) false w args) (Rows.strataFillsSpec.post enc Tryd.prog Tryd.f5 false true false false) := by
  refine lifted_of_walk_laid (C := Tryd.checked) (X := fun w _ => laidMetH Tryd.prog [("outcrop/strata.soils", Rows.laid_outcrop_strata_soils)] w) (fun _ _ _ hh h => h.of_heap hh) strataFills_own started (by kernel_rfl) Tryd.func5
    (ChangeSpec.witness_shaped (enc := enc) (C := Tryd.checked) (os := os) (X := fun w _ => laidMetH Tryd.prog [("outcrop/strata.soils", Rows.laid_outcrop_strata_soils)] w) false (World.doorLaid Tryd.prog 400 os) #[.slice none 0 0, .slice none 0 0, .int .i64 0] 8 rfl (World.shaped_of_RefB (by kernel_rfl) (by kernel_rfl)) (by kernel_rfl) (by kernel_rfl) (by kernel_rfl) (strataFills_door os _))
    strataFills_laidOut (by kernel_rfl) rfl Tryd.underlying4 rfl (fun ds h => by match ds, h with | [_, _, _], _ => rfl) ?_
  intro W args ds ps base hL hA0 hval0 hsz0
  have hA : DataW.TrodAll enc Tryd.prog W 0 (fun _ => true) true Tryd.f5.params.toList args.toList ds ps := hA0
  have hval : ∀ (j : Nat) t v, Tryd.f5.params[j]? = some t → args[j]? = some v → Value.okWide Tryd.prog W .any base t v := hval0
  have hsz : (DataW.weightsEach Tryd.prog Tryd.f5.params.toList ds).all (· ≤ reachBytes) = true := hsz0
  clear hA0 hval0 hsz0
  rw [Tryd.params5] at hA hval hsz
  obtain ⟨v0, vs0, d0, ds0, p0, q0, hargs, rfl, rfl, h0, r0⟩ := trodAll_cons hA
  obtain ⟨v1, vs1, d1, ds1, p1, q1, rfl, rfl, rfl, h1, r1⟩ := trodAll_cons r0
  obtain ⟨v2, vs2, d2, ds2, p2, q2, rfl, rfl, rfl, h2, r2⟩ := trodAll_cons r1
  obtain ⟨rfl, rfl, rfl⟩ := trodAll_nil r2
  obtain rfl : args = #[v0, v1, v2] := by cases args; simp_all
  obtain ⟨A0, n0, c0, xs0, rfl, e0⟩ := open_slice_ints Tryd.underlying26 Tryd.underlying3 (by kernel_rfl) (by kernel_rfl) (j := 0) hsz rfl rfl (hval 0 26 v0 rfl rfl) h0
  obtain ⟨A1, n1, c1, xs1, rfl, e1⟩ := open_slice_ints Tryd.underlying26 Tryd.underlying3 (by kernel_rfl) (by kernel_rfl) (j := 1) hsz rfl rfl (hval 1 26 v1 rfl rfl) h1
  obtain ⟨a2, rfl, rfl, rfl, w2⟩ := open_int Tryd.underlying3 (hval 2 3 v2 rfl rfl) h2
  exact StrataFills_walk W (soils_of_laid hL) A0 n0 c0 xs0 e0 A1 n1 c1 xs1 e1 a2 (I64.of_wf w2)

/-- The law's row: every input. -/
theorem strataFills_row : Rows.StrataFillsSaid :=
  OpenClaim.holds_of_wide 5 Tryd.f5 rfl rfl rfl rfl rfl rfl rfl ⟨rfl, rfl, rfl, rfl, rfl⟩ rfl rfl rfl rfl rfl (by kernel_rfl) Tryd.func5 (by kernel_rfl)
    (of_decide_eq_true (by kernel_rfl)) (by unfold Func.isWrapper; first | (rw [if_pos (by decide +kernel)]; kernel_rfl) | (rw [if_neg (by decide +kernel)]; exact ⟨rfl, rfl⟩))
    (fun os started H enc _ => strataFills_lifted os started H enc)

/-- The law's card: the row, its listed variable tied to the program's text. -/
theorem strataFills_holds : Rows.StrataFillsCardSaid :=
  Claim7.holds_tied_plain_at .later [] [.data] true _ false
    strataFills_row (fun _ h => by cases h) (by kernel_rfl) (fun _ h => by cases h) strataFills_row_tie rfl ⟨rfl, rfl⟩ (by kernel_rfl) rfl
    (fun f fn hf hfn => by
      obtain rfl : f = 5 := Option.some.inj ((show Tryd.prog.funcNamed "outcrop/outcroplaw14.StrataFills" = some 5 by kernel_rfl).symm.trans hf) |>.symm
      obtain rfl : fn = Tryd.f5 := (Option.some.inj (Tryd.func5.symm.trans hfn)).symm
      exact ⟨by kernel_rfl, fun j t ht => by
        rw [Tryd.params5] at ht
        have hm : t ∈ [26, 26, 3] := by simpa using Array.mem_of_getElem? ht
        have hall : ([26, 26, 3].all fun u => !Tryd.prog.wantsStandIn u) = true := by kernel_rfl
        exact (show Tryd.prog.wantsStandIn t = false by simpa using List.all_eq_true.1 hall t hm)⟩)
    (by kernel_rfl)
#print axioms strataFills_holds
end Go.Proofs.YtmliknefakoplaaDoor
