/- StrataFills: a chunk of any columns is filled, or refused, as the document says. -/
import Derived.Test.YtmliknefakoplaaDoorSFillsA
import Derived.Test.YtmliknefakoplaaDoorSFillsB
import Derived.Test.YtmliknefakoplaaDoorSFillsC
namespace Go.Proofs.YtmliknefakoplaaDoor
open Go.RowKit

theorem StrataFills_walk (w : World) (hs : Soils w) (A0 : Option Addr) (n0 c0 : Nat) (xs0 : List Int) (e0 : IntSl w .i64 8 A0 n0 c0 xs0) (A1 : Option Addr) (n1 c1 : Nat) (xs1 : List Int) (e1 : IntSl w .i64 8 A1 n1 c1 xs1) (less : Int) (hl : I64 less) :
    Calls Tryd.prog 5 #[.slice A0 n0 c0, .slice A1 n1 c1, .int .i64 less] w fun e w' => e = .returned (.bool true) ∧ Kp [] w w' := by
  by_cases hr : 0 < less ∧ less ≤ 256
  · exact SFills_cut w hs A0 n0 c0 xs0 e0 A1 n1 c1 xs1 e1 less hl hr
  · by_cases hok : okCols (colL xs0 50) (colL xs1 0)
    · exact SFills_ok w hs A0 n0 c0 xs0 e0 A1 n1 c1 xs1 e1 less hl hr hok
    · exact SFills_no w hs A0 n0 c0 xs0 e0 A1 n1 c1 xs1 e1 less hl hr hok
end Go.Proofs.YtmliknefakoplaaDoor
