/-
  No cell of these rows narrows 'for every input' (looked for: loops, veiled, ifaces, maps, wideKeys, modest, calm, conditions, laid).
  DERIVED. THE GIVEN ROWS OF THIS SEAT. 8 by the template 'for every input the law returns true; each argument reads behind the call as it read before'; 0 by the template 'total and deterministic' (their statements: YtnppdhaphnemfaaTotals.lean).
  GIVEN WITH THE SEED: the statements are not yours to turn. If you find one false, say at which input.
  Laid BY PROGRAM, IN A SANDBOX (cutbox-rows.mjs): the forced cells as the released guide's own fill.sh prints them over the translation 44dd11440763c213… (all of the seat's roots in one cut). By AI agents, Wed Nov 11 2026. No macro, syntax, notation, axiom, sorry.
-/
import Derived.Test.YtnppdhaphnemfaaChecked
import GoSem.Claim
import GoSem.ClaimJoined
import GoSem.ClaimMapViews
import Derived.JoinedTies
import Derived.KernelRfl
namespace Go.Proofs.Ytnppdhaphnemfaa
/- THE CELL 'sum', in the pinned program and in every row, IS THE sha256 OF THE DUMP (.gsa) THAT YtnppdhaphnemfaaProg.lean LOADS. Nothing in Lean hashes anything: it is a label: what it is worth is what the hold of that sum in a sandbox is worth. -/
noncomputable def Try.pinned : Pinned := { name := "ytnppdhaphnemfaa", sum := "44dd11440763c213500febc57c1678f999ea271aca452f53c832433e3f0f5a90", checked := Try.checked }
namespace Rows
def none {H : Type} : Left H := { results := [], args := [] }

/-- 'outcroplaw06.ChunkTops': WHATEVER THE INPUT: true; the input reads as it did. -/
def chunkTopsSpec : ChangeSpec := { name := "chunkTops", fn := fun _ => fun
  | [d1, d2, d3] => { results := [.lit (.bool true)], args := [d1, d2, d3] }
  | _ => none }
def chunkTopsRow : OpenClaim := { program := "ytnppdhaphnemfaa", sum := "44dd11440763c213500febc57c1678f999ea271aca452f53c832433e3f0f5a90", func := "outcrop/outcroplaw06.ChunkTops", spec := "chunkTops", apart := false }
def ChunkTopsSaid : Prop := chunkTopsRow.holds Try.pinned (OpenSpec.ofChange chunkTopsSpec)

/-- ITS FALSE NEIGHBOUR: 'it returns false'. Refute it at one input. -/
def chunkTopsWrong : ChangeSpec := { name := "chunkTops", fn := fun _ => fun
  | [d1, d2, d3] => { results := [.lit (.bool false)], args := [d1, d2, d3] }
  | _ => none }
def ChunkTopsWrongFalsely : Prop := chunkTopsRow.holds Try.pinned (OpenSpec.ofChange chunkTopsWrong)

/-- 'outcroplaw06.ChunkCounts': WHATEVER THE INPUT: true; the input reads as it did. -/
def chunkCountsSpec : ChangeSpec := { name := "chunkCounts", fn := fun _ => fun
  | [d1, d2, d3] => { results := [.lit (.bool true)], args := [d1, d2, d3] }
  | _ => none }
def chunkCountsRow : OpenClaim := { program := "ytnppdhaphnemfaa", sum := "44dd11440763c213500febc57c1678f999ea271aca452f53c832433e3f0f5a90", func := "outcrop/outcroplaw06.ChunkCounts", spec := "chunkCounts", apart := false }
def ChunkCountsSaid : Prop := chunkCountsRow.holds Try.pinned (OpenSpec.ofChange chunkCountsSpec)

/-- ITS FALSE NEIGHBOUR: 'it returns false'. Refute it at one input. -/
def chunkCountsWrong : ChangeSpec := { name := "chunkCounts", fn := fun _ => fun
  | [d1, d2, d3] => { results := [.lit (.bool false)], args := [d1, d2, d3] }
  | _ => none }
def ChunkCountsWrongFalsely : Prop := chunkCountsRow.holds Try.pinned (OpenSpec.ofChange chunkCountsWrong)

/-- 'outcroplaw06.ChunkDoes': WHATEVER THE INPUT: true; the input reads as it did. -/
def chunkDoesSpec : ChangeSpec := { name := "chunkDoes", fn := fun _ => fun
  | [d1, d2, d3, d4] => { results := [.lit (.bool true)], args := [d1, d2, d3, d4] }
  | _ => none }
def chunkDoesRow : OpenClaim := { program := "ytnppdhaphnemfaa", sum := "44dd11440763c213500febc57c1678f999ea271aca452f53c832433e3f0f5a90", func := "outcrop/outcroplaw06.ChunkDoes", spec := "chunkDoes", apart := false }
def ChunkDoesSaid : Prop := chunkDoesRow.holds Try.pinned (OpenSpec.ofChange chunkDoesSpec)

/-- ITS FALSE NEIGHBOUR: 'it returns false'. Refute it at one input. -/
def chunkDoesWrong : ChangeSpec := { name := "chunkDoes", fn := fun _ => fun
  | [d1, d2, d3, d4] => { results := [.lit (.bool false)], args := [d1, d2, d3, d4] }
  | _ => none }
def ChunkDoesWrongFalsely : Prop := chunkDoesRow.holds Try.pinned (OpenSpec.ofChange chunkDoesWrong)

/-- 'outcroplaw06.ChunkTakes': WHATEVER THE INPUT: true; the input reads as it did. -/
def chunkTakesSpec : ChangeSpec := { name := "chunkTakes", fn := fun _ => fun
  | [d1, d2, d3] => { results := [.lit (.bool true)], args := [d1, d2, d3] }
  | _ => none }
def chunkTakesRow : OpenClaim := { program := "ytnppdhaphnemfaa", sum := "44dd11440763c213500febc57c1678f999ea271aca452f53c832433e3f0f5a90", func := "outcrop/outcroplaw06.ChunkTakes", spec := "chunkTakes", apart := false }
def ChunkTakesSaid : Prop := chunkTakesRow.holds Try.pinned (OpenSpec.ofChange chunkTakesSpec)

/-- ITS FALSE NEIGHBOUR: 'it returns false'. Refute it at one input. -/
def chunkTakesWrong : ChangeSpec := { name := "chunkTakes", fn := fun _ => fun
  | [d1, d2, d3] => { results := [.lit (.bool false)], args := [d1, d2, d3] }
  | _ => none }
def ChunkTakesWrongFalsely : Prop := chunkTakesRow.holds Try.pinned (OpenSpec.ofChange chunkTakesWrong)

/-- 'outcroplaw06.ChunkFull': WHATEVER THE INPUT: true; the input reads as it did. -/
def chunkFullSpec : ChangeSpec := { name := "chunkFull", fn := fun _ => fun
  | [d] => { results := [.lit (.bool true)], args := [d] }
  | _ => none }
def chunkFullRow : OpenClaim := { program := "ytnppdhaphnemfaa", sum := "44dd11440763c213500febc57c1678f999ea271aca452f53c832433e3f0f5a90", func := "outcrop/outcroplaw06.ChunkFull", spec := "chunkFull", apart := false }
def ChunkFullSaid : Prop := chunkFullRow.holds Try.pinned (OpenSpec.ofChange chunkFullSpec)

/-- ITS FALSE NEIGHBOUR: 'it returns false'. Refute it at one input. -/
def chunkFullWrong : ChangeSpec := { name := "chunkFull", fn := fun _ => fun
  | [d] => { results := [.lit (.bool false)], args := [d] }
  | _ => none }
def ChunkFullWrongFalsely : Prop := chunkFullRow.holds Try.pinned (OpenSpec.ofChange chunkFullWrong)

/-- 'outcroplaw06.ChunkFills': WHATEVER THE INPUT: true; the input reads as it did. -/
def chunkFillsSpec : ChangeSpec := { name := "chunkFills", fn := fun _ => fun
  | [d1, d2, d3, d4] => { results := [.lit (.bool true)], args := [d1, d2, d3, d4] }
  | _ => none }
def chunkFillsRow : OpenClaim := { program := "ytnppdhaphnemfaa", sum := "44dd11440763c213500febc57c1678f999ea271aca452f53c832433e3f0f5a90", func := "outcrop/outcroplaw06.ChunkFills", spec := "chunkFills", apart := false }
def ChunkFillsSaid : Prop := chunkFillsRow.holds Try.pinned (OpenSpec.ofChange chunkFillsSpec)

/-- ITS FALSE NEIGHBOUR: 'it returns false'. Refute it at one input. -/
def chunkFillsWrong : ChangeSpec := { name := "chunkFills", fn := fun _ => fun
  | [d1, d2, d3, d4] => { results := [.lit (.bool false)], args := [d1, d2, d3, d4] }
  | _ => none }
def ChunkFillsWrongFalsely : Prop := chunkFillsRow.holds Try.pinned (OpenSpec.ofChange chunkFillsWrong)

/-- 'outcroplaw06.ChunkBack': WHATEVER THE INPUT: true; the input reads as it did. -/
def chunkBackSpec : ChangeSpec := { name := "chunkBack", fn := fun _ => fun
  | [d] => { results := [.lit (.bool true)], args := [d] }
  | _ => none }
def chunkBackRow : OpenClaim := { program := "ytnppdhaphnemfaa", sum := "44dd11440763c213500febc57c1678f999ea271aca452f53c832433e3f0f5a90", func := "outcrop/outcroplaw06.ChunkBack", spec := "chunkBack", apart := false }
def ChunkBackSaid : Prop := chunkBackRow.holds Try.pinned (OpenSpec.ofChange chunkBackSpec)

/-- ITS FALSE NEIGHBOUR: 'it returns false'. Refute it at one input. -/
def chunkBackWrong : ChangeSpec := { name := "chunkBack", fn := fun _ => fun
  | [d] => { results := [.lit (.bool false)], args := [d] }
  | _ => none }
def ChunkBackWrongFalsely : Prop := chunkBackRow.holds Try.pinned (OpenSpec.ofChange chunkBackWrong)

/-- 'outcroplaw06.ChunkCopies': WHATEVER THE INPUT: true; the input reads as it did. -/
def chunkCopiesSpec : ChangeSpec := { name := "chunkCopies", fn := fun _ => fun
  | [d1, d2] => { results := [.lit (.bool true)], args := [d1, d2] }
  | _ => none }
def chunkCopiesRow : OpenClaim := { program := "ytnppdhaphnemfaa", sum := "44dd11440763c213500febc57c1678f999ea271aca452f53c832433e3f0f5a90", func := "outcrop/outcroplaw06.ChunkCopies", spec := "chunkCopies", apart := false }
def ChunkCopiesSaid : Prop := chunkCopiesRow.holds Try.pinned (OpenSpec.ofChange chunkCopiesSpec)

/-- ITS FALSE NEIGHBOUR: 'it returns false'. Refute it at one input. -/
def chunkCopiesWrong : ChangeSpec := { name := "chunkCopies", fn := fun _ => fun
  | [d1, d2] => { results := [.lit (.bool false)], args := [d1, d2] }
  | _ => none }
def ChunkCopiesWrongFalsely : Prop := chunkCopiesRow.holds Try.pinned (OpenSpec.ofChange chunkCopiesWrong)

/- THE SECOND FORM. 'bulk': how many values and letters a reading holds, each counted each time it is reached (what is shared counts as often as it is met; a slice's spare places count too). A statement '..UptoSaid' is the law's where the arguments, and the package variables that the reading takes, are together of bulk at most 1048576: NARROWER than '..Said'. Prove '..Said' where nothing that the law and all that it calls make is longer than what came in: it says more and counts as full. Else prove '..UptoSaid'. A law counts once. -/
mutual
def uptoBulk {H : Type} : DataW H → Nat
  | .lit (.string bytes) => bytes.length + 1
  | .lit _ => 1
  | .nil => 1
  | .ptr d => uptoBulk d + 1
  | .slice elems spare => uptoBulkAll elems + uptoBulkAll spare + 1
  | .agg parts => uptoBulkAll parts + 1
  | .iface _ d => uptoBulk d + 1
  | .map entries => uptoBulkEntries entries + 1
  | .held _ => 1
def uptoBulkAll {H : Type} : List (DataW H) → Nat
  | [] => 0
  | d :: r => uptoBulk d + uptoBulkAll r
def uptoBulkEntries {H : Type} : List (Lit × DataW H) → Nat
  | [] => 0
  | x :: r => uptoBulkEntry x + uptoBulkEntries r
def uptoBulkEntry {H : Type} : Lit × DataW H → Nat
  | (.string bytes, d) => bytes.length + uptoBulk d + 1
  | (_, d) => uptoBulk d + 1
 end
def uptoSmall : (H : Type) → List (DataW H) → Bool := fun _ ds => decide (uptoBulkAll ds ≤ 1048576)
def OpenSpec.upto (s : _root_.Go.ChangeSpec) : _root_.Go.OpenSpec := { _root_.Go.OpenSpec.ofChange s with cond := some uptoSmall }

/-- 'outcroplaw06.ChunkTops', WHERE WHAT IT READS IS OF BULK AT MOST 1048576: true; the input reads as it did. -/
def chunkTopsUptoRow : OpenClaim := { program := "ytnppdhaphnemfaa", sum := "44dd11440763c213500febc57c1678f999ea271aca452f53c832433e3f0f5a90", func := "outcrop/outcroplaw06.ChunkTops", spec := "chunkTops", apart := false, narrowed := true }
def ChunkTopsUptoSaid : Prop := chunkTopsUptoRow.holds Try.pinned (OpenSpec.upto chunkTopsSpec)

/-- 'outcroplaw06.ChunkCounts', WHERE WHAT IT READS IS OF BULK AT MOST 1048576: true; the input reads as it did. -/
def chunkCountsUptoRow : OpenClaim := { program := "ytnppdhaphnemfaa", sum := "44dd11440763c213500febc57c1678f999ea271aca452f53c832433e3f0f5a90", func := "outcrop/outcroplaw06.ChunkCounts", spec := "chunkCounts", apart := false, narrowed := true }
def ChunkCountsUptoSaid : Prop := chunkCountsUptoRow.holds Try.pinned (OpenSpec.upto chunkCountsSpec)

/-- 'outcroplaw06.ChunkDoes', WHERE WHAT IT READS IS OF BULK AT MOST 1048576: true; the input reads as it did. -/
def chunkDoesUptoRow : OpenClaim := { program := "ytnppdhaphnemfaa", sum := "44dd11440763c213500febc57c1678f999ea271aca452f53c832433e3f0f5a90", func := "outcrop/outcroplaw06.ChunkDoes", spec := "chunkDoes", apart := false, narrowed := true }
def ChunkDoesUptoSaid : Prop := chunkDoesUptoRow.holds Try.pinned (OpenSpec.upto chunkDoesSpec)

/-- 'outcroplaw06.ChunkTakes', WHERE WHAT IT READS IS OF BULK AT MOST 1048576: true; the input reads as it did. -/
def chunkTakesUptoRow : OpenClaim := { program := "ytnppdhaphnemfaa", sum := "44dd11440763c213500febc57c1678f999ea271aca452f53c832433e3f0f5a90", func := "outcrop/outcroplaw06.ChunkTakes", spec := "chunkTakes", apart := false, narrowed := true }
def ChunkTakesUptoSaid : Prop := chunkTakesUptoRow.holds Try.pinned (OpenSpec.upto chunkTakesSpec)

/-- 'outcroplaw06.ChunkFull', WHERE WHAT IT READS IS OF BULK AT MOST 1048576: true; the input reads as it did. -/
def chunkFullUptoRow : OpenClaim := { program := "ytnppdhaphnemfaa", sum := "44dd11440763c213500febc57c1678f999ea271aca452f53c832433e3f0f5a90", func := "outcrop/outcroplaw06.ChunkFull", spec := "chunkFull", apart := false, narrowed := true }
def ChunkFullUptoSaid : Prop := chunkFullUptoRow.holds Try.pinned (OpenSpec.upto chunkFullSpec)

/-- 'outcroplaw06.ChunkFills', WHERE WHAT IT READS IS OF BULK AT MOST 1048576: true; the input reads as it did. -/
def chunkFillsUptoRow : OpenClaim := { program := "ytnppdhaphnemfaa", sum := "44dd11440763c213500febc57c1678f999ea271aca452f53c832433e3f0f5a90", func := "outcrop/outcroplaw06.ChunkFills", spec := "chunkFills", apart := false, narrowed := true }
def ChunkFillsUptoSaid : Prop := chunkFillsUptoRow.holds Try.pinned (OpenSpec.upto chunkFillsSpec)

/-- 'outcroplaw06.ChunkBack', WHERE WHAT IT READS IS OF BULK AT MOST 1048576: true; the input reads as it did. -/
def chunkBackUptoRow : OpenClaim := { program := "ytnppdhaphnemfaa", sum := "44dd11440763c213500febc57c1678f999ea271aca452f53c832433e3f0f5a90", func := "outcrop/outcroplaw06.ChunkBack", spec := "chunkBack", apart := false, narrowed := true }
def ChunkBackUptoSaid : Prop := chunkBackUptoRow.holds Try.pinned (OpenSpec.upto chunkBackSpec)

/-- 'outcroplaw06.ChunkCopies', WHERE WHAT IT READS IS OF BULK AT MOST 1048576: true; the input reads as it did. -/
def chunkCopiesUptoRow : OpenClaim := { program := "ytnppdhaphnemfaa", sum := "44dd11440763c213500febc57c1678f999ea271aca452f53c832433e3f0f5a90", func := "outcrop/outcroplaw06.ChunkCopies", spec := "chunkCopies", apart := false, narrowed := true }
def ChunkCopiesUptoSaid : Prop := chunkCopiesUptoRow.holds Try.pinned (OpenSpec.upto chunkCopiesSpec)

end Rows
end Go.Proofs.Ytnppdhaphnemfaa
