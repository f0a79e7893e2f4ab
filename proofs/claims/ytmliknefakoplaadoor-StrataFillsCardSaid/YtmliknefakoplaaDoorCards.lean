/-
  DERIVED. GIVEN WITH THE SEED: THE CARDS: each row of YtmliknefakoplaaDoorRows.lean that lists a variable, with what it lists TIED to the program's text (the seventh form; the later family's looks); each row that meets fmt, with fmt's text TOLD by the authors' own Lean function (tested against real Go, not proved from fmt's source: count such statements apart). THE CARD IS WHAT COUNTS. Prove the row's statement (the work); the ties are given (YtmliknefakoplaaDoorTie.lean); close each card by the builder's one call (the guide's Derived/Test/ToyasCard.lean, 'card_holds'). Laid BY PROGRAM, IN A SANDBOX (cutbox-door.mjs). By AI agents, Wed Nov 11 2026. No macro, syntax, notation, axiom, sorry.
-/
import Derived.Test.YtmliknefakoplaaDoorRows
import GoSem.ClaimSeven
namespace Go.Proofs.YtmliknefakoplaaDoor
namespace Rows

/-- THE TIED CARD OF 'outcroplaw14.StrataCells'. -/
def strataCellsCard : Claim7 := { stood := { row := strataCellsRow, standIns := [], harness := (true, "02cf6c7471d11a17f7efc233a545e650b23c8cd28d0e87ac1755574703349d70"), looks := false }, kinds := [], alts := [], laidByText := true, laidKinds := [.data], laidTests := true, laidLooks := .later }
def StrataCellsCardSaid : Prop := Claim7.holds Tryd.pinned (.plain (OpenSpec.ofChange strataCellsSpec)) strataCellsCard

/-- THE TIED CARD OF 'outcroplaw14.StrataDeep'. -/
def strataDeepCard : Claim7 := { stood := { row := strataDeepRow, standIns := [], harness := (true, "02cf6c7471d11a17f7efc233a545e650b23c8cd28d0e87ac1755574703349d70"), looks := false }, kinds := [], alts := [], laidByText := true, laidKinds := [.data], laidTests := true, laidLooks := .later }
def StrataDeepCardSaid : Prop := Claim7.holds Tryd.pinned (.plain (OpenSpec.ofChange strataDeepSpec)) strataDeepCard

/-- THE TIED CARD OF 'outcroplaw14.StrataFills'. -/
def strataFillsCard : Claim7 := { stood := { row := strataFillsRow, standIns := [], harness := (true, "02cf6c7471d11a17f7efc233a545e650b23c8cd28d0e87ac1755574703349d70"), looks := false }, kinds := [], alts := [], laidByText := true, laidKinds := [.data], laidTests := true, laidLooks := .later }
def StrataFillsCardSaid : Prop := Claim7.holds Tryd.pinned (.plain (OpenSpec.ofChange strataFillsSpec)) strataFillsCard

/-- THE TIED CARD OF 'outcroplaw14.StrataLies'. -/
def strataLiesCard : Claim7 := { stood := { row := strataLiesRow, standIns := [], harness := (true, "02cf6c7471d11a17f7efc233a545e650b23c8cd28d0e87ac1755574703349d70"), looks := false }, kinds := [], alts := [], laidByText := true, laidKinds := [.data], laidTests := true, laidLooks := .later }
def StrataLiesCardSaid : Prop := Claim7.holds Tryd.pinned (.plain (OpenSpec.ofChange strataLiesSpec)) strataLiesCard

/-- THE SECOND FORM's CARD OF 'outcroplaw14.StrataCells'. -/
def strataCellsUptoCard : Claim7 := { stood := { row := strataCellsUptoRow, standIns := [], harness := (true, "02cf6c7471d11a17f7efc233a545e650b23c8cd28d0e87ac1755574703349d70"), looks := false }, kinds := [], alts := [], laidByText := true, laidKinds := [.data], laidTests := true, laidLooks := .later }
def StrataCellsUptoCardSaid : Prop := Claim7.holds Tryd.pinned (.plain (OpenSpec.upto strataCellsSpec)) strataCellsUptoCard

/-- THE SECOND FORM's CARD OF 'outcroplaw14.StrataDeep'. -/
def strataDeepUptoCard : Claim7 := { stood := { row := strataDeepUptoRow, standIns := [], harness := (true, "02cf6c7471d11a17f7efc233a545e650b23c8cd28d0e87ac1755574703349d70"), looks := false }, kinds := [], alts := [], laidByText := true, laidKinds := [.data], laidTests := true, laidLooks := .later }
def StrataDeepUptoCardSaid : Prop := Claim7.holds Tryd.pinned (.plain (OpenSpec.upto strataDeepSpec)) strataDeepUptoCard

/-- THE SECOND FORM's CARD OF 'outcroplaw14.StrataFills'. -/
def strataFillsUptoCard : Claim7 := { stood := { row := strataFillsUptoRow, standIns := [], harness := (true, "02cf6c7471d11a17f7efc233a545e650b23c8cd28d0e87ac1755574703349d70"), looks := false }, kinds := [], alts := [], laidByText := true, laidKinds := [.data], laidTests := true, laidLooks := .later }
def StrataFillsUptoCardSaid : Prop := Claim7.holds Tryd.pinned (.plain (OpenSpec.upto strataFillsSpec)) strataFillsUptoCard

/-- THE SECOND FORM's CARD OF 'outcroplaw14.StrataLies'. -/
def strataLiesUptoCard : Claim7 := { stood := { row := strataLiesUptoRow, standIns := [], harness := (true, "02cf6c7471d11a17f7efc233a545e650b23c8cd28d0e87ac1755574703349d70"), looks := false }, kinds := [], alts := [], laidByText := true, laidKinds := [.data], laidTests := true, laidLooks := .later }
def StrataLiesUptoCardSaid : Prop := Claim7.holds Tryd.pinned (.plain (OpenSpec.upto strataLiesSpec)) strataLiesUptoCard
end Rows
end Go.Proofs.YtmliknefakoplaaDoor
