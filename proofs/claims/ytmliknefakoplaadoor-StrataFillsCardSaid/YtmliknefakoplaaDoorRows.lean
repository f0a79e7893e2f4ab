/-
  NARROWER THAN 'FOR EVERY INPUT', by the rows' own cells (each row's printed sentence says how): StrataCells: laid · StrataDeep: laid · StrataFills: laid · StrataLies: laid.
  DERIVED. THE GIVEN ROWS OF THIS SEAT. 4 by the template 'for every input the law returns true; each argument reads behind the call as it read before'; 0 by the template 'total and deterministic' (their statements: YtmliknefakoplaaDoorTotals.lean).
  GIVEN WITH THE SEED: the statements are not yours to turn. If you find one false, say at which input.
  Laid BY PROGRAM, IN A SANDBOX (cutbox-rows.mjs): the forced cells as the released guide's own fill.sh prints them over the translation 71e49df72e8e4aba… (all of the seat's roots in one cut). By AI agents, Wed Nov 11 2026. No macro, syntax, notation, axiom, sorry.
-/
import Derived.Test.YtmliknefakoplaaDoorChecked
import GoSem.Claim
import GoSem.ClaimJoined
import GoSem.ClaimMapViews
import Derived.JoinedTies
import Derived.KernelRfl
namespace Go.Proofs.YtmliknefakoplaaDoor
/- THE CELL 'sum', in the pinned program and in every row, IS THE sha256 OF THE DUMP (.gsa) THAT YtmliknefakoplaaDoorProg.lean LOADS. Nothing in Lean hashes anything: it is a label: what it is worth is what the hold of that sum in a sandbox is worth. -/
noncomputable def Tryd.pinned : Pinned := { name := "ytmliknefakoplaadoor", sum := "71e49df72e8e4aba9de258484b4cd245c0e2ab3853479192ba5f689fd0b957a3", checked := Tryd.checked }
namespace Rows
def none {H : Type} : Left H := { results := [], args := [] }

/- WHAT THE LISTED PACKAGE-LEVEL VARIABLES READ AS WHEN THE CALL BEGINS. Each datum BY PROGRAM (the guide's laid-datum.mjs) off the statement by which the dump's own 'gosem.cut.vars' lays the variable. In a bare row this is a premise. The card (YtmliknefakoplaaDoorCards.lean) ties it to the program's text. -/
def laid_outcrop_strata_soils {H : Type} : DataW H := .agg [.agg [.lit (.int .i64 3), .lit (.int .i64 2), .lit (.int .i64 44), .lit (.int .i64 2)], .agg [.lit (.int .i64 3), .lit (.int .i64 2), .lit (.int .i64 44), .lit (.int .i64 2)], .agg [.lit (.int .i64 4), .lit (.int .i64 4), .lit (.int .i64 0), .lit (.int .i64 4)], .agg [.lit (.int .i64 1), .lit (.int .i64 6), .lit (.int .i64 71), .lit (.int .i64 1)]]

/-- 'outcroplaw14.StrataCells': WHATEVER THE INPUT: true; the input reads as it did. -/
def strataCellsSpec : ChangeSpec := { name := "strataCells", fn := fun _ => fun
  | [d1, d2, d3] => { results := [.lit (.bool true)], args := [d1, d2, d3] }
  | _ => none }
def strataCellsRow : OpenClaim := { program := "ytmliknefakoplaadoor", sum := "71e49df72e8e4aba9de258484b4cd245c0e2ab3853479192ba5f689fd0b957a3", func := "outcrop/outcroplaw14.StrataCells", spec := "strataCells", named := ["outcrop/strata.soils"], apart := false, laid := [("outcrop/strata.soils", laid_outcrop_strata_soils)] }
def StrataCellsSaid : Prop := strataCellsRow.holds Tryd.pinned (OpenSpec.ofChange strataCellsSpec)

/-- ITS FALSE NEIGHBOUR: 'it returns false'. Refute it at one input. -/
def strataCellsWrong : ChangeSpec := { name := "strataCells", fn := fun _ => fun
  | [d1, d2, d3] => { results := [.lit (.bool false)], args := [d1, d2, d3] }
  | _ => none }
def StrataCellsWrongFalsely : Prop := strataCellsRow.holds Tryd.pinned (OpenSpec.ofChange strataCellsWrong)

/-- 'outcroplaw14.StrataDeep': WHATEVER THE INPUT: true; the input reads as it did. -/
def strataDeepSpec : ChangeSpec := { name := "strataDeep", fn := fun _ => fun
  | [d1, d2, d3, d4] => { results := [.lit (.bool true)], args := [d1, d2, d3, d4] }
  | _ => none }
def strataDeepRow : OpenClaim := { program := "ytmliknefakoplaadoor", sum := "71e49df72e8e4aba9de258484b4cd245c0e2ab3853479192ba5f689fd0b957a3", func := "outcrop/outcroplaw14.StrataDeep", spec := "strataDeep", named := ["outcrop/strata.soils"], apart := false, laid := [("outcrop/strata.soils", laid_outcrop_strata_soils)] }
def StrataDeepSaid : Prop := strataDeepRow.holds Tryd.pinned (OpenSpec.ofChange strataDeepSpec)

/-- ITS FALSE NEIGHBOUR: 'it returns false'. Refute it at one input. -/
def strataDeepWrong : ChangeSpec := { name := "strataDeep", fn := fun _ => fun
  | [d1, d2, d3, d4] => { results := [.lit (.bool false)], args := [d1, d2, d3, d4] }
  | _ => none }
def StrataDeepWrongFalsely : Prop := strataDeepRow.holds Tryd.pinned (OpenSpec.ofChange strataDeepWrong)

/-- 'outcroplaw14.StrataFills': WHATEVER THE INPUT: true; the input reads as it did. -/
def strataFillsSpec : ChangeSpec := { name := "strataFills", fn := fun _ => fun
  | [d1, d2, d3] => { results := [.lit (.bool true)], args := [d1, d2, d3] }
  | _ => none }
def strataFillsRow : OpenClaim := { program := "ytmliknefakoplaadoor", sum := "71e49df72e8e4aba9de258484b4cd245c0e2ab3853479192ba5f689fd0b957a3", func := "outcrop/outcroplaw14.StrataFills", spec := "strataFills", named := ["outcrop/strata.soils"], apart := false, laid := [("outcrop/strata.soils", laid_outcrop_strata_soils)] }
def StrataFillsSaid : Prop := strataFillsRow.holds Tryd.pinned (OpenSpec.ofChange strataFillsSpec)

/-- ITS FALSE NEIGHBOUR: 'it returns false'. Refute it at one input. -/
def strataFillsWrong : ChangeSpec := { name := "strataFills", fn := fun _ => fun
  | [d1, d2, d3] => { results := [.lit (.bool false)], args := [d1, d2, d3] }
  | _ => none }
def StrataFillsWrongFalsely : Prop := strataFillsRow.holds Tryd.pinned (OpenSpec.ofChange strataFillsWrong)

/-- 'outcroplaw14.StrataLies': WHATEVER THE INPUT: true; the input reads as it did. -/
def strataLiesSpec : ChangeSpec := { name := "strataLies", fn := fun _ => fun
  | [d1, d2] => { results := [.lit (.bool true)], args := [d1, d2] }
  | _ => none }
def strataLiesRow : OpenClaim := { program := "ytmliknefakoplaadoor", sum := "71e49df72e8e4aba9de258484b4cd245c0e2ab3853479192ba5f689fd0b957a3", func := "outcrop/outcroplaw14.StrataLies", spec := "strataLies", named := ["outcrop/strata.soils"], apart := false, laid := [("outcrop/strata.soils", laid_outcrop_strata_soils)] }
def StrataLiesSaid : Prop := strataLiesRow.holds Tryd.pinned (OpenSpec.ofChange strataLiesSpec)

/-- ITS FALSE NEIGHBOUR: 'it returns false'. Refute it at one input. -/
def strataLiesWrong : ChangeSpec := { name := "strataLies", fn := fun _ => fun
  | [d1, d2] => { results := [.lit (.bool false)], args := [d1, d2] }
  | _ => none }
def StrataLiesWrongFalsely : Prop := strataLiesRow.holds Tryd.pinned (OpenSpec.ofChange strataLiesWrong)

/- THE SECOND FORM. 'bulk': how many values and letters a reading holds, each counted each time it is reached (what is shared counts as often as it is met; a slice's spare places count too). A statement '..UptoSaid' is the law's where the arguments, and the package variables that the reading takes, are together of bulk at most 1048576: NARROWER than '..Said'. Prove '..Said' where nothing that the law and all that it calls make is longer than what came in: it says more and counts as full. Else prove '..UptoSaid'. A law counts once. -/
mutual
def uptoBulk {H : Type} : DataW H → Nat
  | .lit (.string bytes) => bytes.length + 1
  | .lit _ => 1
  | .nil => 1
  | .ptr d => uptoBulk d + 1
  | .slice elems spare => uptoBulkAll elems + uptoBulkAll spare + 1
  | .agg parts => uptoBulkAll parts + 1
  | .iface _ d => uptoBulk d + 1
  | .map entries => uptoBulkEntries entries + 1
  | .held _ => 1
def uptoBulkAll {H : Type} : List (DataW H) → Nat
  | [] => 0
  | d :: r => uptoBulk d + uptoBulkAll r
def uptoBulkEntries {H : Type} : List (Lit × DataW H) → Nat
  | [] => 0
  | x :: r => uptoBulkEntry x + uptoBulkEntries r
def uptoBulkEntry {H : Type} : Lit × DataW H → Nat
  | (.string bytes, d) => bytes.length + uptoBulk d + 1
  | (_, d) => uptoBulk d + 1
 end
def uptoSmall : (H : Type) → List (DataW H) → Bool := fun _ ds => decide (uptoBulkAll ds ≤ 1048576)
def OpenSpec.upto (s : _root_.Go.ChangeSpec) : _root_.Go.OpenSpec := { _root_.Go.OpenSpec.ofChange s with cond := some uptoSmall }

/-- 'outcroplaw14.StrataCells', WHERE WHAT IT READS IS OF BULK AT MOST 1048576: true; the input reads as it did. -/
def strataCellsUptoRow : OpenClaim := { program := "ytmliknefakoplaadoor", sum := "71e49df72e8e4aba9de258484b4cd245c0e2ab3853479192ba5f689fd0b957a3", func := "outcrop/outcroplaw14.StrataCells", spec := "strataCells", named := ["outcrop/strata.soils"], apart := false, laid := [("outcrop/strata.soils", laid_outcrop_strata_soils)], narrowed := true }
def StrataCellsUptoSaid : Prop := strataCellsUptoRow.holds Tryd.pinned (OpenSpec.upto strataCellsSpec)

/-- 'outcroplaw14.StrataDeep', WHERE WHAT IT READS IS OF BULK AT MOST 1048576: true; the input reads as it did. -/
def strataDeepUptoRow : OpenClaim := { program := "ytmliknefakoplaadoor", sum := "71e49df72e8e4aba9de258484b4cd245c0e2ab3853479192ba5f689fd0b957a3", func := "outcrop/outcroplaw14.StrataDeep", spec := "strataDeep", named := ["outcrop/strata.soils"], apart := false, laid := [("outcrop/strata.soils", laid_outcrop_strata_soils)], narrowed := true }
def StrataDeepUptoSaid : Prop := strataDeepUptoRow.holds Tryd.pinned (OpenSpec.upto strataDeepSpec)

/-- 'outcroplaw14.StrataFills', WHERE WHAT IT READS IS OF BULK AT MOST 1048576: true; the input reads as it did. -/
def strataFillsUptoRow : OpenClaim := { program := "ytmliknefakoplaadoor", sum := "71e49df72e8e4aba9de258484b4cd245c0e2ab3853479192ba5f689fd0b957a3", func := "outcrop/outcroplaw14.StrataFills", spec := "strataFills", named := ["outcrop/strata.soils"], apart := false, laid := [("outcrop/strata.soils", laid_outcrop_strata_soils)], narrowed := true }
def StrataFillsUptoSaid : Prop := strataFillsUptoRow.holds Tryd.pinned (OpenSpec.upto strataFillsSpec)

/-- 'outcroplaw14.StrataLies', WHERE WHAT IT READS IS OF BULK AT MOST 1048576: true; the input reads as it did. -/
def strataLiesUptoRow : OpenClaim := { program := "ytmliknefakoplaadoor", sum := "71e49df72e8e4aba9de258484b4cd245c0e2ab3853479192ba5f689fd0b957a3", func := "outcrop/outcroplaw14.StrataLies", spec := "strataLies", named := ["outcrop/strata.soils"], apart := false, laid := [("outcrop/strata.soils", laid_outcrop_strata_soils)], narrowed := true }
def StrataLiesUptoSaid : Prop := strataLiesUptoRow.holds Tryd.pinned (OpenSpec.upto strataLiesSpec)

end Rows
end Go.Proofs.YtmliknefakoplaaDoor
