/- StrataFills: the two fillings, parted by whether the columns may be. -/
import Derived.Deep.RegionWith
import Derived.BigQuiet
import Derived.Test.YtmliknefakoplaaDoorAwake14
import Derived.Test.YtmliknefakoplaaDoorCols14
import Derived.Test.YtmliknefakoplaaDoorRefFill14
namespace Go.Proofs.YtmliknefakoplaaDoor
open Go.RowKit
set_option linter.unusedVariables false
set_option linter.unusedSimpArgs false

theorem str_fact (W : World) (A : Option Addr) (c B : Nat) (f : Nat → Int) (hr : Rd W B A (ints .u8 (cellsL f))) : (convert 32 9 (.slice A 32768 c)).run Tryd.prog W = .ok (.string (strOfNums (cellsL f))) W :=
  run_string_rd (P := Tryd.prog) W 32 9 5 Tryd.underlying32 Tryd.underlying5 Tryd.underlying9 A 32768 c B _ (cellsL_length f) hr

theorem rd_take {W : World} {B : Nat} {A : Option Addr} {l : List Int} (L : Nat) (h : Rd W B A (ints .i64 l)) : Rd W B A (ints .i64 (l.take L)) := fun j u hu => by
  refine h j u ?_
  have e : ints .i64 (l.take L) = (ints .i64 l).take L := by simp [ints, List.map_take]
  rw [e, List.getElem?_take] at hu
  by_cases hj : j < L
  · rwa [if_pos hj] at hu
  · rw [if_neg hj] at hu
    cases hu

theorem fill_no (g1 n1 c1 g2 n2 c2 : Nat) (hs bs : List Int) (w : World) (hsl : Soils w) (h1 : hs.length = n1) (h2 : bs.length = n2) (hc1 : n1 ≤ 256) (hc2 : n2 ≤ 256)
    (r1 : Rd w w.heap.size (some ⟨g1, 0, none⟩) (ints .i64 hs)) (r2 : Rd w w.heap.size (some ⟨g2, 0, none⟩) (ints .i64 bs)) (hno : ¬ okCols hs bs) :
    Calls Tryd.prog 11 #[.slice (some ⟨g1, 0, none⟩) n1 c1, .slice (some ⟨g2, 0, none⟩) n2 c2] w fun e w' => e = .returned (.tuple #[.pointer none, .int .i64 1]) ∧ Kp [] w w' :=
  (strata_Fill g1 n1 c1 g2 n2 c2 hs bs w hsl h1 h2 hc1 hc2 r1 r2).mono (fun e w' h => by
    rcases h with ⟨⟨ho, _⟩ | ⟨_, he⟩, k⟩
    · exact absurd ho hno
    · exact ⟨he, k⟩)
theorem fill_ok (g1 n1 c1 g2 n2 c2 : Nat) (hs bs : List Int) (w : World) (hsl : Soils w) (h1 : hs.length = n1) (h2 : bs.length = n2) (hc1 : n1 ≤ 256) (hc2 : n2 ≤ 256)
    (r1 : Rd w w.heap.size (some ⟨g1, 0, none⟩) (ints .i64 hs)) (r2 : Rd w w.heap.size (some ⟨g2, 0, none⟩) (ints .i64 bs)) (hok : okCols hs bs) :
    Calls Tryd.prog 11 #[.slice (some ⟨g1, 0, none⟩) n1 c1, .slice (some ⟨g2, 0, none⟩) n2 c2] w fun e w' => ∃ b, e = .returned (.tuple #[.pointer (some ⟨b, 0, none⟩), .int .i64 0]) ∧ Chk w' b (fillF hs bs) ∧ Kp [] w w' :=
  (strata_Fill g1 n1 c1 g2 n2 c2 hs bs w hsl h1 h2 hc1 hc2 r1 r2).mono (fun e w' h => by
    rcases h with ⟨⟨_, b, he, _, hc⟩ | ⟨hn, he⟩, k⟩
    · exact ⟨b, he, hc, k⟩
    · exact absurd hok hn)
theorem rfill_no (g1 n1 c1 g2 n2 c2 : Nat) (hs bs : List Int) (w : World) (h1 : hs.length = n1) (h2 : bs.length = n2)
    (r1 : Rd w w.heap.size (some ⟨g1, 0, none⟩) (ints .i64 hs)) (r2 : Rd w w.heap.size (some ⟨g2, 0, none⟩) (ints .i64 bs)) (hno : ¬ okCols hs bs) :
    Calls Tryd.prog 12 #[.slice (some ⟨g1, 0, none⟩) n1 c1, .slice (some ⟨g2, 0, none⟩) n2 c2] w fun e w' => e = .returned (.tuple #[.slice none 0 0, .int .i64 1]) ∧ Kp [] w w' :=
  (ref_Fill g1 n1 c1 g2 n2 c2 hs bs w h1 h2 r1 r2).mono (fun e w' h => by
    rcases h with ⟨⟨ho, _⟩ | ⟨_, he⟩, k⟩
    · exact absurd ho hno
    · exact ⟨he, k⟩)
theorem rfill_ok (g1 n1 c1 g2 n2 c2 : Nat) (hs bs : List Int) (w : World) (h1 : hs.length = n1) (h2 : bs.length = n2)
    (r1 : Rd w w.heap.size (some ⟨g1, 0, none⟩) (ints .i64 hs)) (r2 : Rd w w.heap.size (some ⟨g2, 0, none⟩) (ints .i64 bs)) (hok : okCols hs bs) :
    Calls Tryd.prog 12 #[.slice (some ⟨g1, 0, none⟩) n1 c1, .slice (some ⟨g2, 0, none⟩) n2 c2] w fun e w' => ∃ b, e = .returned (.tuple #[.slice (some ⟨b, 0, none⟩) 32768 32768, .int .i64 0]) ∧ Row 32768 w' b (fillF hs bs) ∧ Kp [] w w' :=
  (ref_Fill g1 n1 c1 g2 n2 c2 hs bs w h1 h2 r1 r2).mono (fun e w' h => by
    rcases h with ⟨⟨_, b, he, _, hc⟩ | ⟨hn, he⟩, k⟩
    · exact ⟨b, he, hc, k⟩
    · exact absurd hok hn)

end Go.Proofs.YtmliknefakoplaaDoor
