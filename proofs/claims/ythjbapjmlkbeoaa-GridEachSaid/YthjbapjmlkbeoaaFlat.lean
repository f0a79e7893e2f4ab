/- A struct of whole numbers, or of such structs, that came in by value. -/
import Derived.Deep.Slices
import Derived.Deep.Fields
import Derived.Test.YthjbapjmlkbeoaaDiv
namespace Go.Proofs.Ythjbapjmlkbeoaa
open Go.RowKit Go.ChangeShapes Go.WideShapes Go.Deep
set_option linter.unusedVariables false
set_option linter.unusedSimpArgs false

/-- Nothing but numbers of int, to depth n. -/
def flatI (P : Program) : Nat → TypeId → Bool
  | 0, _ => false
  | n + 1, t => match P.underlying t with
    | some (.int .i64) => true
    | some (.struct fs) => fs.toList.all (fun f => flatI P n f.type) && (List.range (P.cellsOf t)).all fun i => fs.toList.any fun f => decide (f.offset ≤ i) && decide (i < f.offset + P.cellsOf f.type)
    | _ => false

theorem flatI_open {H : Type} {enc : TypeId × Value → H} {P : Program} {W : World} {base : Nat} {spare : Nat → Bool} {held : Bool} : ∀ (n : Nat) (t : TypeId) (fuel : Nat) (cs : List Value) (y : DataW H × List MemPlace),
    flatI P n t = true → DataW.trod enc P W base spare held fuel t cs = some y → ∀ i, i < cs.length → ∃ x, cs[i]? = some (.int .i64 x) ∧ I64 x := by
  intro n
  induction n with
  | zero => intro t fuel cs y h; cases h
  | succ n ih =>
    intro t fuel cs y h hf i hi
    unfold flatI at h
    split at h
    · rename_i hu
      obtain ⟨x, hx, _, hwf⟩ := DataW.trod_int hu hf
      subst hx
      have h0 : i = 0 := by simpa using hi
      subst h0
      exact ⟨x, rfl, I64.of_wf hwf⟩
    · rename_i fs hu
      rw [Bool.and_eq_true] at h
      obtain ⟨ys, q, _, _, hl, hyl, hfl⟩ := DataW.trod_struct hu hf
      have h1 := List.all_eq_true.1 h.2 i (List.mem_range.2 (by omega))
      obtain ⟨f, hfm, hfi⟩ := List.any_eq_true.1 h1
      simp only [Bool.and_eq_true, decide_eq_true_eq] at hfi
      obtain ⟨j, hj, rfl⟩ := List.getElem_of_mem hfm
      have hj' : j < fs.size := by simpa using hj
      have hfj : fs[j]? = some (fs.toList[j]) := by
        rw [Array.getElem?_eq_getElem hj']
        simp
      have h2 := hfl j _ hfj
      have h3 : ys[j]? = some (ys[j]'(by omega)) := List.getElem?_eq_getElem (by omega)
      obtain ⟨x, hx, hxi⟩ := ih _ _ _ _ (List.all_eq_true.1 h.1 _ hfm) (h2.trans h3) (i - fs.toList[j].offset) (by
        rw [List.length_take, List.length_drop]
        omega)
      refine ⟨x, ?_, hxi⟩
      rw [List.getElem?_take, if_pos (by omega), List.getElem?_drop, show fs.toList[j].offset + (i - fs.toList[j].offset) = i by omega] at hx
      exact hx
    · cases h

theorem arr2 {α : Type} {cs : Array α} (h : cs.size = 2) : ∃ c0 c1, cs = #[c0, c1] := by
  obtain ⟨l⟩ := cs
  match l, h with
  | [c0, c1], _ => exact ⟨c0, c1, rfl⟩
theorem arr3 {α : Type} {cs : Array α} (h : cs.size = 3) : ∃ c0 c1 c2, cs = #[c0, c1, c2] := by
  obtain ⟨l⟩ := cs
  match l, h with
  | [c0, c1, c2], _ => exact ⟨c0, c1, c2, rfl⟩
section
variable {H : Type} {enc : TypeId × Value → H} {P : Program} {W : World} {base : Nat} {t : TypeId} {fs : Array Field} {v : Value} {d : DataW H} {p : List MemPlace}
theorem open_flat (hs : P.underlying t = some (.struct fs)) (n k : Nat) (hfl : flatI P n t = true) (hC : P.cellsOf t = k) (hv : Value.okWide P W .any base t v) (h : DataW.Trod enc P W 0 (fun _ => true) true t v d p) :
    ∃ cs : Array Value, v = .agg cs ∧ cs.size = k ∧ ∀ i, i < k → ∃ x, cs[i]? = some (.int .i64 x) ∧ I64 x := by
  obtain ⟨cs, rfl, hsz⟩ := okWide_struct hs hv
  obtain ⟨fuel, hf⟩ := h
  refine ⟨cs, rfl, hsz.trans hC, fun i hi => ?_⟩
  have h1 := flatI_open n t fuel _ _ hfl hf i (by simp [Value.cells]; omega)
  simpa [Value.cells] using h1
theorem open_flat2 (hs : P.underlying t = some (.struct fs)) (n : Nat) (hfl : flatI P n t = true) (hC : P.cellsOf t = 2) (hv : Value.okWide P W .any base t v) (h : DataW.Trod enc P W 0 (fun _ => true) true t v d p) :
    ∃ a b : Int, v = .agg #[.int .i64 a, .int .i64 b] ∧ I64 a ∧ I64 b := by
  obtain ⟨cs, rfl, hsz, hc⟩ := open_flat hs n 2 hfl hC hv h
  obtain ⟨c0, c1, rfl⟩ := arr2 hsz
  obtain ⟨a, ha, wa⟩ := hc 0 (by omega)
  obtain ⟨b, hb, wb⟩ := hc 1 (by omega)
  simp at ha hb
  subst ha hb
  exact ⟨a, b, rfl, wa, wb⟩
theorem open_flat3 (hs : P.underlying t = some (.struct fs)) (n : Nat) (hfl : flatI P n t = true) (hC : P.cellsOf t = 3) (hv : Value.okWide P W .any base t v) (h : DataW.Trod enc P W 0 (fun _ => true) true t v d p) :
    ∃ a b c : Int, v = .agg #[.int .i64 a, .int .i64 b, .int .i64 c] ∧ I64 a ∧ I64 b ∧ I64 c := by
  obtain ⟨cs, rfl, hsz, hc⟩ := open_flat hs n 3 hfl hC hv h
  obtain ⟨c0, c1, c2, rfl⟩ := arr3 hsz
  obtain ⟨a, ha, wa⟩ := hc 0 (by omega)
  obtain ⟨b, hb, wb⟩ := hc 1 (by omega)
  obtain ⟨c, hc2, wc⟩ := hc 2 (by omega)
  simp at ha hb hc2
  subst ha hb hc2
  exact ⟨a, b, c, rfl, wa, wb, wc⟩
theorem arr6 {α : Type} {cs : Array α} (h : cs.size = 6) : ∃ c0 c1 c2 c3 c4 c5, cs = #[c0, c1, c2, c3, c4, c5] := by
  obtain ⟨l⟩ := cs
  match l, h with
  | [c0, c1, c2, c3, c4, c5], _ => exact ⟨c0, c1, c2, c3, c4, c5, rfl⟩
theorem open_flat6 (hs : P.underlying t = some (.struct fs)) (n : Nat) (hfl : flatI P n t = true) (hC : P.cellsOf t = 6) (hv : Value.okWide P W .any base t v) (h : DataW.Trod enc P W 0 (fun _ => true) true t v d p) :
    ∃ a b c x y z : Int, v = .agg #[.int .i64 a, .int .i64 b, .int .i64 c, .int .i64 x, .int .i64 y, .int .i64 z] ∧ I64 a ∧ I64 b ∧ I64 c ∧ I64 x ∧ I64 y ∧ I64 z := by
  obtain ⟨cs, rfl, hsz, hc⟩ := open_flat hs n 6 hfl hC hv h
  obtain ⟨c0, c1, c2, c3, c4, c5, rfl⟩ := arr6 hsz
  obtain ⟨a, ha, wa⟩ := hc 0 (by omega)
  obtain ⟨b, hb, wb⟩ := hc 1 (by omega)
  obtain ⟨c, hc2, wc⟩ := hc 2 (by omega)
  obtain ⟨x, hx, wx⟩ := hc 3 (by omega)
  obtain ⟨y, hy, wy⟩ := hc 4 (by omega)
  obtain ⟨z, hz, wz⟩ := hc 5 (by omega)
  simp at ha hb hc2 hx hy hz
  subst ha hb hc2 hx hy hz
  exact ⟨a, b, c, x, y, z, rfl, wa, wb, wc, wx, wy, wz⟩
end
end Go.Proofs.Ythjbapjmlkbeoaa
