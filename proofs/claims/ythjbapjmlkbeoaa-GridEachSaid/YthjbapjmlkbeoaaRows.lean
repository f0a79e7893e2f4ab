/-
  No cell of these rows narrows 'for every input' (looked for: loops, veiled, ifaces, maps, wideKeys, modest, calm, conditions, laid).
  DERIVED. THE GIVEN ROWS OF THIS SEAT. 8 by the template 'for every input the law returns true; each argument reads behind the call as it read before'; 0 by the template 'total and deterministic' (their statements: YthjbapjmlkbeoaaTotals.lean).
  GIVEN WITH THE SEED: the statements are not yours to turn. If you find one false, say at which input.
  Laid BY PROGRAM, IN A SANDBOX (cutbox-rows.mjs): the forced cells as the released guide's own fill.sh prints them over the translation 158e59fe9adb72be… (all of the seat's roots in one cut). By AI agents, Wed Nov 11 2026. No macro, syntax, notation, axiom, sorry.
-/
import Derived.Test.YthjbapjmlkbeoaaChecked
import GoSem.Claim
import GoSem.ClaimJoined
import GoSem.ClaimMapViews
import Derived.JoinedTies
import Derived.KernelRfl
namespace Go.Proofs.Ythjbapjmlkbeoaa
/- THE CELL 'sum', in the pinned program and in every row, IS THE sha256 OF THE DUMP (.gsa) THAT YthjbapjmlkbeoaaProg.lean LOADS. Nothing in Lean hashes anything: it is a label: what it is worth is what the hold of that sum in a sandbox is worth. -/
noncomputable def Try.pinned : Pinned := { name := "ythjbapjmlkbeoaa", sum := "158e59fe9adb72be32d62098e5b46dbabf3b8843a1c0636bf31549244d003567", checked := Try.checked }
namespace Rows
def none {H : Type} : Left H := { results := [], args := [] }

/-- 'outcroplaw04.GridCells': WHATEVER THE INPUT: true; the input reads as it did. -/
def gridCellsSpec : ChangeSpec := { name := "gridCells", fn := fun _ => fun
  | [d] => { results := [.lit (.bool true)], args := [d] }
  | _ => none }
def gridCellsRow : OpenClaim := { program := "ythjbapjmlkbeoaa", sum := "158e59fe9adb72be32d62098e5b46dbabf3b8843a1c0636bf31549244d003567", func := "outcrop/outcroplaw04.GridCells", spec := "gridCells", unfollowed := true, recurses := true, apart := false }
def GridCellsSaid : Prop := gridCellsRow.holds Try.pinned (OpenSpec.ofChange gridCellsSpec)

/-- ITS FALSE NEIGHBOUR: 'it returns false'. Refute it at one input. -/
def gridCellsWrong : ChangeSpec := { name := "gridCells", fn := fun _ => fun
  | [d] => { results := [.lit (.bool false)], args := [d] }
  | _ => none }
def GridCellsWrongFalsely : Prop := gridCellsRow.holds Try.pinned (OpenSpec.ofChange gridCellsWrong)

/-- 'outcroplaw04.GridBack': WHATEVER THE INPUT: true; the input reads as it did. -/
def gridBackSpec : ChangeSpec := { name := "gridBack", fn := fun _ => fun
  | [d1, d2, d3] => { results := [.lit (.bool true)], args := [d1, d2, d3] }
  | _ => none }
def gridBackRow : OpenClaim := { program := "ythjbapjmlkbeoaa", sum := "158e59fe9adb72be32d62098e5b46dbabf3b8843a1c0636bf31549244d003567", func := "outcrop/outcroplaw04.GridBack", spec := "gridBack", unfollowed := true, recurses := true, apart := false }
def GridBackSaid : Prop := gridBackRow.holds Try.pinned (OpenSpec.ofChange gridBackSpec)

/-- ITS FALSE NEIGHBOUR: 'it returns false'. Refute it at one input. -/
def gridBackWrong : ChangeSpec := { name := "gridBack", fn := fun _ => fun
  | [d1, d2, d3] => { results := [.lit (.bool false)], args := [d1, d2, d3] }
  | _ => none }
def GridBackWrongFalsely : Prop := gridBackRow.holds Try.pinned (OpenSpec.ofChange gridBackWrong)

/-- 'outcroplaw04.GridEach': WHATEVER THE INPUT: true; the input reads as it did. -/
def gridEachSpec : ChangeSpec := { name := "gridEach", fn := fun _ => fun
  | [d1, d2] => { results := [.lit (.bool true)], args := [d1, d2] }
  | _ => none }
def gridEachRow : OpenClaim := { program := "ythjbapjmlkbeoaa", sum := "158e59fe9adb72be32d62098e5b46dbabf3b8843a1c0636bf31549244d003567", func := "outcrop/outcroplaw04.GridEach", spec := "gridEach", unfollowed := true, recurses := true, apart := false }
def GridEachSaid : Prop := gridEachRow.holds Try.pinned (OpenSpec.ofChange gridEachSpec)

/-- ITS FALSE NEIGHBOUR: 'it returns false'. Refute it at one input. -/
def gridEachWrong : ChangeSpec := { name := "gridEach", fn := fun _ => fun
  | [d1, d2] => { results := [.lit (.bool false)], args := [d1, d2] }
  | _ => none }
def GridEachWrongFalsely : Prop := gridEachRow.holds Try.pinned (OpenSpec.ofChange gridEachWrong)

/-- 'outcroplaw04.GridNear': WHATEVER THE INPUT: true; the input reads as it did. -/
def gridNearSpec : ChangeSpec := { name := "gridNear", fn := fun _ => fun
  | [d1, d2] => { results := [.lit (.bool true)], args := [d1, d2] }
  | _ => none }
def gridNearRow : OpenClaim := { program := "ythjbapjmlkbeoaa", sum := "158e59fe9adb72be32d62098e5b46dbabf3b8843a1c0636bf31549244d003567", func := "outcrop/outcroplaw04.GridNear", spec := "gridNear", unfollowed := true, recurses := true, apart := false }
def GridNearSaid : Prop := gridNearRow.holds Try.pinned (OpenSpec.ofChange gridNearSpec)

/-- ITS FALSE NEIGHBOUR: 'it returns false'. Refute it at one input. -/
def gridNearWrong : ChangeSpec := { name := "gridNear", fn := fun _ => fun
  | [d1, d2] => { results := [.lit (.bool false)], args := [d1, d2] }
  | _ => none }
def GridNearWrongFalsely : Prop := gridNearRow.holds Try.pinned (OpenSpec.ofChange gridNearWrong)

/-- 'outcroplaw04.GridRows': WHATEVER THE INPUT: true; the input reads as it did. -/
def gridRowsSpec : ChangeSpec := { name := "gridRows", fn := fun _ => fun
  | [d] => { results := [.lit (.bool true)], args := [d] }
  | _ => none }
def gridRowsRow : OpenClaim := { program := "ythjbapjmlkbeoaa", sum := "158e59fe9adb72be32d62098e5b46dbabf3b8843a1c0636bf31549244d003567", func := "outcrop/outcroplaw04.GridRows", spec := "gridRows", unfollowed := true, recurses := true, apart := false }
def GridRowsSaid : Prop := gridRowsRow.holds Try.pinned (OpenSpec.ofChange gridRowsSpec)

/-- ITS FALSE NEIGHBOUR: 'it returns false'. Refute it at one input. -/
def gridRowsWrong : ChangeSpec := { name := "gridRows", fn := fun _ => fun
  | [d] => { results := [.lit (.bool false)], args := [d] }
  | _ => none }
def GridRowsWrongFalsely : Prop := gridRowsRow.holds Try.pinned (OpenSpec.ofChange gridRowsWrong)

/-- 'outcroplaw04.GridRings': WHATEVER THE INPUT: true; the input reads as it did. -/
def gridRingsSpec : ChangeSpec := { name := "gridRings", fn := fun _ => fun
  | [d1, d2, d3, d4] => { results := [.lit (.bool true)], args := [d1, d2, d3, d4] }
  | _ => none }
def gridRingsRow : OpenClaim := { program := "ythjbapjmlkbeoaa", sum := "158e59fe9adb72be32d62098e5b46dbabf3b8843a1c0636bf31549244d003567", func := "outcrop/outcroplaw04.GridRings", spec := "gridRings", unfollowed := true, recurses := true, apart := false }
def GridRingsSaid : Prop := gridRingsRow.holds Try.pinned (OpenSpec.ofChange gridRingsSpec)

/-- ITS FALSE NEIGHBOUR: 'it returns false'. Refute it at one input. -/
def gridRingsWrong : ChangeSpec := { name := "gridRings", fn := fun _ => fun
  | [d1, d2, d3, d4] => { results := [.lit (.bool false)], args := [d1, d2, d3, d4] }
  | _ => none }
def GridRingsWrongFalsely : Prop := gridRingsRow.holds Try.pinned (OpenSpec.ofChange gridRingsWrong)

/-- 'outcroplaw04.GridBoxes': WHATEVER THE INPUT: true; the input reads as it did. -/
def gridBoxesSpec : ChangeSpec := { name := "gridBoxes", fn := fun _ => fun
  | [d] => { results := [.lit (.bool true)], args := [d] }
  | _ => none }
def gridBoxesRow : OpenClaim := { program := "ythjbapjmlkbeoaa", sum := "158e59fe9adb72be32d62098e5b46dbabf3b8843a1c0636bf31549244d003567", func := "outcrop/outcroplaw04.GridBoxes", spec := "gridBoxes", unfollowed := true, recurses := true, apart := false }
def GridBoxesSaid : Prop := gridBoxesRow.holds Try.pinned (OpenSpec.ofChange gridBoxesSpec)

/-- ITS FALSE NEIGHBOUR: 'it returns false'. Refute it at one input. -/
def gridBoxesWrong : ChangeSpec := { name := "gridBoxes", fn := fun _ => fun
  | [d] => { results := [.lit (.bool false)], args := [d] }
  | _ => none }
def GridBoxesWrongFalsely : Prop := gridBoxesRow.holds Try.pinned (OpenSpec.ofChange gridBoxesWrong)

/-- 'outcroplaw04.GridWorld': WHATEVER THE INPUT: true; the input reads as it did. -/
def gridWorldSpec : ChangeSpec := { name := "gridWorld", fn := fun _ => fun
  | [d1, d2, d3, d4] => { results := [.lit (.bool true)], args := [d1, d2, d3, d4] }
  | _ => none }
def gridWorldRow : OpenClaim := { program := "ythjbapjmlkbeoaa", sum := "158e59fe9adb72be32d62098e5b46dbabf3b8843a1c0636bf31549244d003567", func := "outcrop/outcroplaw04.GridWorld", spec := "gridWorld", unfollowed := true, recurses := true, apart := false }
def GridWorldSaid : Prop := gridWorldRow.holds Try.pinned (OpenSpec.ofChange gridWorldSpec)

/-- ITS FALSE NEIGHBOUR: 'it returns false'. Refute it at one input. -/
def gridWorldWrong : ChangeSpec := { name := "gridWorld", fn := fun _ => fun
  | [d1, d2, d3, d4] => { results := [.lit (.bool false)], args := [d1, d2, d3, d4] }
  | _ => none }
def GridWorldWrongFalsely : Prop := gridWorldRow.holds Try.pinned (OpenSpec.ofChange gridWorldWrong)

/- THE SECOND FORM. 'bulk': how many values and letters a reading holds, each counted each time it is reached (what is shared counts as often as it is met; a slice's spare places count too). A statement '..UptoSaid' is the law's where the arguments, and the package variables that the reading takes, are together of bulk at most 1048576: NARROWER than '..Said'. Prove '..Said' where nothing that the law and all that it calls make is longer than what came in: it says more and counts as full. Else prove '..UptoSaid'. A law counts once. -/
mutual
def uptoBulk {H : Type} : DataW H → Nat
  | .lit (.string bytes) => bytes.length + 1
  | .lit _ => 1
  | .nil => 1
  | .ptr d => uptoBulk d + 1
  | .slice elems spare => uptoBulkAll elems + uptoBulkAll spare + 1
  | .agg parts => uptoBulkAll parts + 1
  | .iface _ d => uptoBulk d + 1
  | .map entries => uptoBulkEntries entries + 1
  | .held _ => 1
def uptoBulkAll {H : Type} : List (DataW H) → Nat
  | [] => 0
  | d :: r => uptoBulk d + uptoBulkAll r
def uptoBulkEntries {H : Type} : List (Lit × DataW H) → Nat
  | [] => 0
  | x :: r => uptoBulkEntry x + uptoBulkEntries r
def uptoBulkEntry {H : Type} : Lit × DataW H → Nat
  | (.string bytes, d) => bytes.length + uptoBulk d + 1
  | (_, d) => uptoBulk d + 1
 end
def uptoSmall : (H : Type) → List (DataW H) → Bool := fun _ ds => decide (uptoBulkAll ds ≤ 1048576)
def OpenSpec.upto (s : _root_.Go.ChangeSpec) : _root_.Go.OpenSpec := { _root_.Go.OpenSpec.ofChange s with cond := some uptoSmall }

/-- 'outcroplaw04.GridCells', WHERE WHAT IT READS IS OF BULK AT MOST 1048576: true; the input reads as it did. -/
def gridCellsUptoRow : OpenClaim := { program := "ythjbapjmlkbeoaa", sum := "158e59fe9adb72be32d62098e5b46dbabf3b8843a1c0636bf31549244d003567", func := "outcrop/outcroplaw04.GridCells", spec := "gridCells", unfollowed := true, recurses := true, apart := false, narrowed := true }
def GridCellsUptoSaid : Prop := gridCellsUptoRow.holds Try.pinned (OpenSpec.upto gridCellsSpec)

/-- 'outcroplaw04.GridBack', WHERE WHAT IT READS IS OF BULK AT MOST 1048576: true; the input reads as it did. -/
def gridBackUptoRow : OpenClaim := { program := "ythjbapjmlkbeoaa", sum := "158e59fe9adb72be32d62098e5b46dbabf3b8843a1c0636bf31549244d003567", func := "outcrop/outcroplaw04.GridBack", spec := "gridBack", unfollowed := true, recurses := true, apart := false, narrowed := true }
def GridBackUptoSaid : Prop := gridBackUptoRow.holds Try.pinned (OpenSpec.upto gridBackSpec)

/-- 'outcroplaw04.GridEach', WHERE WHAT IT READS IS OF BULK AT MOST 1048576: true; the input reads as it did. -/
def gridEachUptoRow : OpenClaim := { program := "ythjbapjmlkbeoaa", sum := "158e59fe9adb72be32d62098e5b46dbabf3b8843a1c0636bf31549244d003567", func := "outcrop/outcroplaw04.GridEach", spec := "gridEach", unfollowed := true, recurses := true, apart := false, narrowed := true }
def GridEachUptoSaid : Prop := gridEachUptoRow.holds Try.pinned (OpenSpec.upto gridEachSpec)

/-- 'outcroplaw04.GridNear', WHERE WHAT IT READS IS OF BULK AT MOST 1048576: true; the input reads as it did. -/
def gridNearUptoRow : OpenClaim := { program := "ythjbapjmlkbeoaa", sum := "158e59fe9adb72be32d62098e5b46dbabf3b8843a1c0636bf31549244d003567", func := "outcrop/outcroplaw04.GridNear", spec := "gridNear", unfollowed := true, recurses := true, apart := false, narrowed := true }
def GridNearUptoSaid : Prop := gridNearUptoRow.holds Try.pinned (OpenSpec.upto gridNearSpec)

/-- 'outcroplaw04.GridRows', WHERE WHAT IT READS IS OF BULK AT MOST 1048576: true; the input reads as it did. -/
def gridRowsUptoRow : OpenClaim := { program := "ythjbapjmlkbeoaa", sum := "158e59fe9adb72be32d62098e5b46dbabf3b8843a1c0636bf31549244d003567", func := "outcrop/outcroplaw04.GridRows", spec := "gridRows", unfollowed := true, recurses := true, apart := false, narrowed := true }
def GridRowsUptoSaid : Prop := gridRowsUptoRow.holds Try.pinned (OpenSpec.upto gridRowsSpec)

/-- 'outcroplaw04.GridRings', WHERE WHAT IT READS IS OF BULK AT MOST 1048576: true; the input reads as it did. -/
def gridRingsUptoRow : OpenClaim := { program := "ythjbapjmlkbeoaa", sum := "158e59fe9adb72be32d62098e5b46dbabf3b8843a1c0636bf31549244d003567", func := "outcrop/outcroplaw04.GridRings", spec := "gridRings", unfollowed := true, recurses := true, apart := false, narrowed := true }
def GridRingsUptoSaid : Prop := gridRingsUptoRow.holds Try.pinned (OpenSpec.upto gridRingsSpec)

/-- 'outcroplaw04.GridBoxes', WHERE WHAT IT READS IS OF BULK AT MOST 1048576: true; the input reads as it did. -/
def gridBoxesUptoRow : OpenClaim := { program := "ythjbapjmlkbeoaa", sum := "158e59fe9adb72be32d62098e5b46dbabf3b8843a1c0636bf31549244d003567", func := "outcrop/outcroplaw04.GridBoxes", spec := "gridBoxes", unfollowed := true, recurses := true, apart := false, narrowed := true }
def GridBoxesUptoSaid : Prop := gridBoxesUptoRow.holds Try.pinned (OpenSpec.upto gridBoxesSpec)

/-- 'outcroplaw04.GridWorld', WHERE WHAT IT READS IS OF BULK AT MOST 1048576: true; the input reads as it did. -/
def gridWorldUptoRow : OpenClaim := { program := "ythjbapjmlkbeoaa", sum := "158e59fe9adb72be32d62098e5b46dbabf3b8843a1c0636bf31549244d003567", func := "outcrop/outcroplaw04.GridWorld", spec := "gridWorld", unfollowed := true, recurses := true, apart := false, narrowed := true }
def GridWorldUptoSaid : Prop := gridWorldUptoRow.holds Try.pinned (OpenSpec.upto gridWorldSpec)

end Rows
end Go.Proofs.Ythjbapjmlkbeoaa
