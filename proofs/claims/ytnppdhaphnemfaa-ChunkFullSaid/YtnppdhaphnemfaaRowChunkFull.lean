/- The row of ChunkFull, out of its walk. -/
import Derived.Test.YtnppdhaphnemfaaLawFull
namespace Go.Proofs.Ytnppdhaphnemfaa
open Go.RowKit Go.ChangeShapes Go.WideShapes Go.ChangeAt
set_option linter.unusedVariables false
set_option linter.unusedSimpArgs false

theorem chunkFull_own : ownKnob Try.prog.godebug = none := by kernel_rfl
theorem chunkFull_laidOut : laidOutB Try.prog = true := by kernel_rfl

set_option maxRecDepth 100000 in
theorem chunkFull_lifted (os : Os) (started : os.Started) (H : Type) (enc : TypeId × Value → H) :
    ReturnsInHanded {} Try.checked os 7 .any (Rows.chunkFullSpec.pre6 enc Try.prog Try.f7 Rows.chunkFullRow.domain false) (Rows.chunkFullSpec.post enc Try.prog Try.f7 false true false false) := by
  refine lifted_of_walk (C := Try.checked) chunkFull_own started (by kernel_rfl) Try.func7
    (ChangeSpec.witness6 (enc := enc) (C := Try.checked) false ⟨#[], #[.int .i64 0], []⟩ 8 (by kernel_rfl) (by kernel_rfl) (by kernel_rfl) (by kernel_rfl))
    chunkFull_laidOut (by kernel_rfl) rfl Try.underlying4 rfl (fun ds h => by match ds, h with | [_], _ => rfl) ?_
  intro W args ds ps base hA0 hval0 hsz0
  have hA : DataW.TrodAll enc Try.prog W 0 (fun _ => true) true Try.f7.params.toList args.toList ds ps := hA0
  have hval : ∀ (j : Nat) t v, Try.f7.params[j]? = some t → args[j]? = some v → Value.okWide Try.prog W .any base t v := hval0
  have hsz : (DataW.weightsEach Try.prog Try.f7.params.toList ds).all (· ≤ reachBytes) = true := hsz0
  clear hA0 hval0 hsz0
  rw [Try.params7] at hA hval hsz
  obtain ⟨v0, vs0, d0, ds0, p0, q0, hargs, rfl, rfl, h0, r0⟩ := trodAll_cons hA
  obtain ⟨rfl, rfl, rfl⟩ := trodAll_nil r0
  obtain rfl : args = #[v0] := by cases args; simp_all
  obtain ⟨a0, rfl, rfl, rfl, w0⟩ := open_int Try.underlying3 (hval 0 3 v0 rfl rfl) h0
  exact ChunkFull_walk W a0 (I64.of_wf w0)

/-- The law's row: every input. -/
theorem chunkFull_holds : Rows.ChunkFullSaid :=
  OpenClaim.holds_of_wide 7 Try.f7 rfl rfl rfl rfl rfl rfl rfl ⟨rfl, rfl, rfl, rfl, rfl⟩ rfl rfl rfl rfl rfl (by kernel_rfl) Try.func7 (by kernel_rfl)
    (of_decide_eq_true (by kernel_rfl)) (by unfold Func.isWrapper; first | (rw [if_pos (by decide +kernel)]; kernel_rfl) | (rw [if_neg (by decide +kernel)]; exact ⟨rfl, rfl⟩))
    (fun os started H enc _ => chunkFull_lifted os started H enc)
#print axioms chunkFull_holds
end Go.Proofs.Ytnppdhaphnemfaa
