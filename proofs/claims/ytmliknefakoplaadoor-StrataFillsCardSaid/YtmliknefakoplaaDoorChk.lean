/- A chunk in memory: a block of 32768 bytes; New, Get, Set. -/
import Derived.Test.YtmliknefakoplaaDoorDiv
namespace Go.Proofs.YtmliknefakoplaaDoor
open Go.RowKit
set_option linter.unusedVariables false
set_option linter.unusedSimpArgs false

/-- Block b, N elements of type t, begins with the bytes f, 32768 of them, each a kind. -/
structure Cells (N : Nat) (t : TypeId) (w : World) (b : Nat) (f : Nat → Int) : Prop where
  blk : ∃ cs, Bk w b t cs ∧ cs.size = N ∧ ∀ i, i < 32768 → cs[i]? = some (.int .u8 (f i))
  rng : ∀ i, i < 32768 → 0 ≤ f i ∧ f i ≤ 16

section
variable {N : Nat} {t : TypeId} {S : List Nat} {w w' : World} {b : Nat} {f g : Nat → Int}
theorem Cells.kp (h : Cells N t w b f) (k : Kp S w w') (hb : b ∉ S) : Cells N t w' b f := by
  obtain ⟨⟨cs, h1, h2⟩, h3⟩ := h
  exact ⟨⟨cs, h1.kp k hb, h2⟩, h3⟩
theorem Cells.kp0 (h : Cells N t w b f) (k : Kp [] w w') : Cells N t w' b f := h.kp k (by simp)
theorem Cells.lt (h : Cells N t w b f) : b < w.heap.size := by
  obtain ⟨⟨cs, h1, _⟩, _⟩ := h
  exact h1.lt
theorem Cells.cell (h : Cells N t w b f) {i : Nat} (hi : i < 32768) : w.cell? ⟨b, i, none⟩ = some (.int .u8 (f i)) := by
  obtain ⟨⟨cs, h1, h2, h3⟩, _⟩ := h
  rw [h1.cell, h3 i hi]
theorem Cells.frozen (h : Cells N t w b f) (i : Nat) : w.frozen? ⟨b, i, none⟩ = false := by
  obtain ⟨⟨cs, h1, h2, h3⟩, _⟩ := h
  exact h1.frozen i
theorem Cells.put (h : Cells N t w b f) (i : Nat) (k : Int) (h0 : 0 ≤ k) (h1 : k ≤ 16) : Cells N t (w.setCell ⟨b, i, none⟩ (.int .u8 k)) b (fun j => if j = i then k else f j) := by
  obtain ⟨⟨cs, h2, h3, h4⟩, h5⟩ := h
  refine ⟨⟨_, h2.put i _, by simpa using h3, fun j hj => ?_⟩, fun j hj => ?_⟩
  · rw [Array.getElem?_setIfInBounds]
    by_cases hji : i = j
    · subst hji
      simp [(Array.getElem?_eq_some_iff.1 (h4 i hj)).1]
    · rw [if_neg hji, if_neg (fun e => hji e.symm), h4 j hj]
  · by_cases hji : j = i
    · simp only [hji, if_true]
      exact ⟨h0, h1⟩
    · simp only [hji, if_false]
      exact h5 j hj
theorem Cells.ext (h : Cells N t w b f) (hfg : ∀ i, i < 32768 → g i = f i) : Cells N t w b g := by
  obtain ⟨⟨cs, h2, h3, h4⟩, h5⟩ := h
  exact ⟨⟨cs, h2, h3, fun i hi => by rw [hfg i hi]; exact h4 i hi⟩, fun i hi => by rw [hfg i hi]; exact h5 i hi⟩
theorem Cells.fun_eq (h : Cells N t w b f) (h' : Cells N t w b g) : ∀ i, i < 32768 → f i = g i := fun i hi => by
  have h1 := h.cell hi
  rw [h'.cell hi] at h1
  injection h1 with h1
  injection h1 with _ h1
  exact h1.symm
theorem Cells.rd (h : Cells N t w b f) : Rd w w.heap.size (some ⟨b, 0, none⟩) (ints .u8 ((List.range 32768).map f)) := fun j u hu => by
  have hj : j < 32768 := by
    rcases Nat.lt_or_ge j 32768 with hj | hj
    · exact hj
    · rw [List.getElem?_eq_none (by simpa [ints] using hj)] at hu
      cases hu
  refine ⟨_, rfl, h.lt, ?_⟩
  rw [add_plain, Nat.zero_add, h.cell hj]
  have e : (ints .u8 ((List.range 32768).map f))[j]? = some (.int .u8 (f j)) := by
    unfold ints
    rw [List.getElem?_map, List.getElem?_map, List.getElem?_range hj]
    rfl
  rw [e] at hu
  exact hu
end
/-- Block b is a chunk; a row of bytes of one's own that is one. -/
abbrev Chk (w : World) (b : Nat) (f : Nat → Int) : Prop := Cells 32768 55 w b f
abbrev Row (c : Nat) (w : World) (b : Nat) (f : Nat → Int) : Prop := Cells c 5 w b f

/-! ### The zero chunk -/
def isZ (v : Value) : Bool := match v with | .int .u8 0 => true | _ => false
def lenFrom : List Value → Nat → Nat
  | [], n => n
  | _ :: r, n => lenFrom r (n + 1)
theorem lenFrom_eq (l : List Value) : ∀ n, lenFrom l n = n + l.length := by
  induction l with
  | nil => intro n; rfl
  | cons a r ih => intro n; rw [lenFrom, ih, List.length_cons]; omega
def zeroLooks (z : Option (Option Value)) : Bool := match z with
  | some (some (.agg cs)) => cs.toList.all isZ && lenFrom cs.toList 0 == 32768
  | _ => false
theorem zeroLooks_true : zeroLooks ((Tryd.prog.info? 55).map (fun (i : TypeInfo) => i.zero)) = true := by kernel_rfl
theorem chunk_size : (Tryd.prog.info? 55).map (fun (i : TypeInfo) => i.size) = some 32768 := by kernel_rfl
theorem cells_size : (Tryd.prog.info? 53).map (fun (i : TypeInfo) => i.size) = some 32768 := by kernel_rfl

theorem zero_chunk : ∃ cs : Array Value, (Tryd.prog.info? 55).map (fun (i : TypeInfo) => i.zero) = some (some (.agg cs)) ∧ cs.size = 32768 ∧ ∀ i, i < 32768 → cs[i]? = some (.int .u8 0) := by
  have h := zeroLooks_true
  generalize (Tryd.prog.info? 55).map (fun (i : TypeInfo) => i.zero) = z at *
  unfold zeroLooks at h
  split at h
  · rename_i cs
    rw [Bool.and_eq_true, lenFrom_eq, Nat.zero_add, beq_iff_eq] at h
    refine ⟨cs, rfl, by simpa using h.2, fun i hi => ?_⟩
    have hl : i < cs.toList.length := by rw [h.2]; exact hi
    have h1 := List.all_eq_true.1 h.1 cs.toList[i] (List.getElem_mem hl)
    have h2 : ∀ v, isZ v = true → v = .int .u8 0 := fun v hv => by
      unfold isZ at hv
      split at hv
      · rfl
      · cases hv
    rw [← Array.getElem?_toList, List.getElem?_eq_getElem hl, h2 _ h1]
  · cases h
end Go.Proofs.YtmliknefakoplaaDoor
