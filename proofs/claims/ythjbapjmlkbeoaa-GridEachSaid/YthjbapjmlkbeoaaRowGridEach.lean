/- The row of GridEach, out of its walk. -/
import Derived.Test.YthjbapjmlkbeoaaLawGridEach
namespace Go.Proofs.Ythjbapjmlkbeoaa
open Go.RowKit Go.ChangeShapes Go.WideShapes Go.ChangeAt
set_option linter.unusedVariables false
set_option linter.unusedSimpArgs false

theorem gridEach_own : ownKnob Try.prog.godebug = none := by kernel_rfl
theorem gridEach_laidOut : laidOutB Try.prog = true := by kernel_rfl

set_option maxRecDepth 100000 in
theorem gridEach_lifted (os : Os) (started : os.Started) (H : Type) (enc : TypeId × Value → H) :
    ReturnsInHanded {} Try.checked os 5 .any (Rows.gridEachSpec.pre6 enc Try.prog Try.f5 Rows.gridEachRow.domain false) (Rows.gridEachSpec.post enc Try.prog Try.f5 false true false false) := by
  refine lifted_of_walk (C := Try.checked) gridEach_own started (by kernel_rfl) Try.func5
    (ChangeSpec.witness6 (enc := enc) (C := Try.checked) false ⟨#[], #[.agg #[.int .i64 0, .int .i64 0, .int .i64 0, .int .i64 0, .int .i64 0, .int .i64 0], .int .i64 0], []⟩ 8 (by kernel_rfl) (by kernel_rfl) (by kernel_rfl) (by kernel_rfl))
    gridEach_laidOut (by kernel_rfl) rfl Try.underlying4 rfl (fun ds h => by match ds, h with | [_, _], _ => rfl) ?_
  intro W args ds ps base hA0 hval0 hsz0
  have hA : DataW.TrodAll enc Try.prog W 0 (fun _ => true) true Try.f5.params.toList args.toList ds ps := hA0
  have hval : ∀ (j : Nat) t v, Try.f5.params[j]? = some t → args[j]? = some v → Value.okWide Try.prog W .any base t v := hval0
  have hsz : (DataW.weightsEach Try.prog Try.f5.params.toList ds).all (· ≤ reachBytes) = true := hsz0
  clear hA0 hval0 hsz0
  rw [Try.params5] at hA hval hsz
  obtain ⟨v0, vs0, d0, ds0, p0, q0, hargs, rfl, rfl, h0, r0⟩ := trodAll_cons hA
  obtain ⟨v1, vs1, d1, ds1, p1, q1, rfl, rfl, rfl, h1, r1⟩ := trodAll_cons r0
  obtain ⟨rfl, rfl, rfl⟩ := trodAll_nil r1
  obtain rfl : args = #[v0, v1] := by cases args; simp_all
  obtain ⟨x0_0, x0_1, x0_2, x0_3, x0_4, x0_5, rfl, w0_0, w0_1, w0_2, w0_3, w0_4, w0_5⟩ := open_flat6 Try.underlying33 4 (by kernel_rfl) (by kernel_rfl) (hval 0 33 v0 rfl rfl) h0
  obtain ⟨a1, rfl, rfl, rfl, w1⟩ := open_int Try.underlying3 (hval 1 3 v1 rfl rfl) h1
  exact GridEach_walk W x0_0 x0_1 x0_2 x0_3 x0_4 x0_5 a1

/-- The law's row: every input. -/
theorem gridEach_holds : Rows.GridEachSaid :=
  OpenClaim.holds_of_wide 5 Try.f5 rfl rfl rfl rfl rfl rfl rfl ⟨rfl, rfl, rfl, rfl, rfl⟩ rfl rfl rfl rfl rfl (by kernel_rfl) Try.func5 (by kernel_rfl)
    (of_decide_eq_true (by kernel_rfl)) (by unfold Func.isWrapper; first | (rw [if_pos (by decide +kernel)]; kernel_rfl) | (rw [if_neg (by decide +kernel)]; exact ⟨rfl, rfl⟩))
    (fun os started H enc _ => gridEach_lifted os started H enc)
#print axioms gridEach_holds
end Go.Proofs.Ythjbapjmlkbeoaa
