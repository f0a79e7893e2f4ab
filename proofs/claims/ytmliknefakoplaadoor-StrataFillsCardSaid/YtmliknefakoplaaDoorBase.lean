/- Words of this proof: slices that read as lists of cells, blocks that are known whole, what a call leaves as it was, and the row of a law out of its walk. -/
import Derived.Test.YtmliknefakoplaaDoorRows
import Derived.WalkKit
import Derived.WalkSpells
import Derived.WalkLawsBesides
import Derived.ProofKit
import Derived.OpenShut
import Derived.ChangeOld
import Derived.SizedLaws
import Derived.Maps.AppendAt
import Derived.Deep.QuietTactic
import Derived.Deep.Draws
import Derived.Deep.AppendLies
import Derived.Deep.Slices
import Derived.Deep.LoopGhost
import Derived.Deep.DeepCutAuto
import Derived.BigQuiet
import Derived.Lib.Hide
import Derived.Lib.SmallJoins
import Derived.Laws.BytesArg
import Derived.Laws.OwnMore
import Derived.OwnWalk
namespace Go.Proofs.YtmliknefakoplaaDoor
open Go.RowKit Go.ChangeShapes Go.WideShapes Go.ChangeAt
set_option linter.unusedVariables false
set_option linter.unusedSimpArgs false

/-! ### What is left as it was: every block but those of a list -/
/-- From w to w' no block that was there has turned, but for those of S. -/
structure Kp (S : List Nat) (w w' : World) : Prop where
  os : w'.os = w.os
  tape : w'.tape = w.tape
  output : w'.output = w.output
  size : w.heap.size ≤ w'.heap.size
  block : ∀ k, k < w.heap.size → k ∉ S → w'.heap[k]? = w.heap[k]?

section
variable {S T : List Nat} {w w' a b c : World}
theorem Kp.refl (S : List Nat) (w : World) : Kp S w w := ⟨rfl, rfl, rfl, Nat.le_refl _, fun _ _ _ => rfl⟩
theorem Kp.trans (h : Kp S a b) (k : Kp T b c) (hT : ∀ x, x ∈ T → x < a.heap.size → x ∈ S) : Kp S a c :=
  ⟨k.os.trans h.os, k.tape.trans h.tape, k.output.trans h.output, Nat.le_trans h.size k.size, fun x hx hn =>
    (k.block x (Nat.lt_of_lt_of_le hx h.size) (fun ht => hn (hT x ht hx))).trans (h.block x hx hn)⟩
theorem Kp.then (h : Kp S a b) (k : Kp [] b c) : Kp S a c := h.trans k (fun _ hx => by cases hx)
theorem Kp.same (h : Kp S a b) (k : Kp S b c) : Kp S a c := h.trans k (fun _ hx _ => hx)
theorem Kp.mono (h : Kp S a b) (hS : ∀ x, x ∈ S → x < a.heap.size → x ∈ T) : Kp T a b :=
  ⟨h.os, h.tape, h.output, h.size, fun x hx hn => h.block x hx (fun hs => hn (hS x hs hx))⟩
theorem Kp.alloc (h : Kp S w w') (o : Obj) : Kp S w (w'.alloc o) :=
  ⟨h.os, h.tape, h.output, Nat.le_trans h.size (by simp), fun x hx hn => (Below.heap_alloc w' o x (Nat.lt_of_lt_of_le hx h.size)).trans (h.block x hx hn)⟩
theorem Kp.drew (h : Kp S w w') : Kp S w w'.drew := ⟨h.os, h.tape, h.output, h.size, h.block⟩
theorem Kp.drewN (h : Kp S w w') (n : Nat) : Kp S w (w'.drewN n) := ⟨h.os, h.tape, h.output, h.size, h.block⟩
theorem Kp.setCell (h : Kp S w w') {p : Addr} (hp : p.block ∈ S ∨ w.heap.size ≤ p.block) (u : Value) : Kp S w (w'.setCell p u) :=
  ⟨h.os, h.tape, h.output, by simpa [World.setCell] using h.size, fun x hx hn => (Below.heap_setCell w' p u x (by
    rintro rfl
    rcases hp with hp | hp
    · exact hn hp
    · omega)).trans (h.block x hx hn)⟩
theorem Kp.below (h : Kp [] w w') : Below w.heap.size w w' := ⟨h.os, h.tape, h.output, h.size, fun k hk => h.block k hk (by simp)⟩
theorem Kp.of_below (h : Below w.heap.size w w') : Kp [] w w' := ⟨h.os, h.tape, h.output, h.size, fun k hk _ => h.block k hk⟩
theorem Kp.grown (h : Kp S w w') {row : Option Nat} {w1 : World} (hg : w'.grownBy w1 row) (hr : ∀ k, row = some k → k < w.heap.size → k ∈ S) : Kp S w w1 :=
  ⟨hg.os.trans h.os, hg.tape.trans h.tape, hg.output.trans h.output, Nat.le_trans h.size hg.size, fun x hx hn =>
    (hg.block x (Nat.lt_of_lt_of_le hx h.size) (fun e => hn (hr x e.symm hx))).trans (h.block x hx hn)⟩
theorem Kp.toGrown {row : Option Nat} (h : Kp S w w') (hr : ∀ x, x ∈ S → x < w.heap.size → row = some x) : w.grownBy w' row :=
  ⟨h.os, h.tape, h.output, h.size, fun k hk hne => h.block k hk (fun hs => hne (hr k hs hk).symm)⟩
theorem Kp.cell (h : Kp S w w') {p : Addr} {v : Value} (hc : w.cell? p = some v) (hp : p.block ∉ S) : w'.cell? p = some v :=
  (World.cell?_of_block (h.block p.block (World.block_lt_of_cell? w p hc) hp)).trans hc
end

/-! ### A block that is known whole -/
/-- Block g is just these cells, of this type; none is frozen. -/
def Bk (w : World) (g : Nat) (t : TypeId) (cs : Array Value) : Prop := w.heap[g]? = some (.cells cs t (0, 0))

section
variable {S : List Nat} {w w' : World} {g : Nat} {t : TypeId} {cs : Array Value}
theorem Bk.lt (h : Bk w g t cs) : g < w.heap.size := by
  unfold Bk at h
  by_cases hg : g < w.heap.size
  · exact hg
  · rw [Array.getElem?_eq_none (by omega)] at h
    cases h
theorem Bk.cell (h : Bk w g t cs) (i : Nat) : w.cell? ⟨g, i, none⟩ = cs[i]? := by
  unfold Bk at h
  simp [World.cell?, h]
theorem Bk.frozen (h : Bk w g t cs) (i : Nat) : w.frozen? ⟨g, i, none⟩ = false := by
  unfold Bk at h
  simp [World.frozen?, h]
theorem Bk.new (w : World) (t : TypeId) (cs : Array Value) : Bk (w.alloc (.cells cs t)) w.heap.size t cs := heap_alloc_new w _
theorem Bk.kp (h : Bk w g t cs) (k : Kp S w w') (hg : g ∉ S) : Bk w' g t cs := (k.block g h.lt hg).trans h
theorem Bk.drewN (h : Bk w g t cs) (n : Nat) : Bk (w.drewN n) g t cs := h
theorem Bk.alloc (h : Bk w g t cs) (o : Obj) : Bk (w.alloc o) g t cs := (Below.heap_alloc w o g h.lt).trans h
theorem Bk.put (h : Bk w g t cs) (i : Nat) (u : Value) : Bk (w.setCell ⟨g, i, none⟩ u) g t (cs.setIfInBounds i u) := by
  unfold Bk at h ⊢
  simp [World.setCell, Array.getElem?_modify, h]
theorem Bk.far (h : Bk w g t cs) {p : Addr} (hp : g ≠ p.block) (u : Value) : Bk (w.setCell p u) g t cs := (Below.heap_setCell w p u g hp).trans h
end

/-! ### A slice that reads as a list of cells -/
theorem add_block (a : Addr) (n : Nat) : (a.add n).block = a.block := by
  unfold Addr.add
  split <;> rfl
theorem add_plain (g o j : Nat) : (⟨g, o, none⟩ : Addr).add j = ⟨g, o + j, none⟩ := by
  unfold Addr.add
  split <;> simp_all

/-- The cells from A on are xs; all lie below block B. -/
def Rd (w : World) (B : Nat) (A : Option Addr) (xs : List Value) : Prop :=
  ∀ j u, xs[j]? = some u → ∃ a, A = some a ∧ a.block < B ∧ w.cell? (a.add j) = some u

section
variable {S : List Nat} {w w' : World} {B B' : Nat} {A : Option Addr} {xs : List Value}
theorem Rd.nil (w : World) (B : Nat) (A : Option Addr) : Rd w B A [] := fun j u h => by simp at h
theorem Rd.kp (h : Rd w B A xs) (k : Kp S w w') (hS : ∀ x, x ∈ S → B ≤ x) : Rd w' B A xs := fun j u hu => by
  obtain ⟨a, rfl, hb, hc⟩ := h j u hu
  exact ⟨a, rfl, hb, k.cell hc (by rw [add_block]; intro hs; have := hS _ hs; omega)⟩
theorem Rd.kp0 (h : Rd w B A xs) (k : Kp [] w w') : Rd w' B A xs := h.kp k (fun _ hx => by cases hx)
theorem Rd.more (h : Rd w B A xs) (hB : B ≤ B') : Rd w B' A xs := fun j u hu => by
  obtain ⟨a, rfl, hb, hc⟩ := h j u hu
  exact ⟨a, rfl, by omega, hc⟩
theorem Rd.size (h : Rd w B A xs) : Rd w w.heap.size A xs := fun j u hu => by
  obtain ⟨a, rfl, _, hc⟩ := h j u hu
  exact ⟨a, rfl, by have := World.block_lt_of_cell? w _ hc; rwa [add_block] at this, hc⟩
theorem Rd.at_ (h : Rd w B A xs) {j : Nat} (hj : j < xs.length) : ∃ a, A = some a ∧ w.cell? (a.add j) = some xs[j] := by
  obtain ⟨a, rfl, _, hc⟩ := h j _ (List.getElem?_eq_getElem hj)
  exact ⟨a, rfl, hc⟩
theorem Rd.of_own {base : Nat} {e : TypeId} {size n c : Nat} (h : w.ownsRow base e size (.slice A n c) n xs) : Rd w w.heap.size A xs := fun j u hu => by
  rcases h.2 with ⟨hv, hn⟩ | ⟨g, cap, cur, hv, hb, hh, _⟩
  · have : xs = [] := List.eq_nil_of_length_eq_zero (by rw [h.1, hn, Nat.zero_mul])
    subst this
    simp at hu
  · have hA : A = some ⟨g, 0, none⟩ := by injection hv
    subst hA
    exact ⟨_, rfl, (Array.getElem?_eq_some_iff.1 hh).1, h.cells (g := g) rfl j u hu⟩
end

/-! ### append onto a row of one's own, whatever the source -/
section
variable {P : Program} (w : World)
theorem run_append_rd (base : Nat) (t ty e : TypeId) (z : Value) (size bytes : Nat) (ht : P.underlying t = some (.slice e)) (hinfo : (P.info? e).map (fun i => (i.zero, i.size, i.bytes)) = some (some z, size, bytes))
    (hzs : z.cells.size = size) (hsz : 0 < size) (v : Value) (n : Nat) (xs : List Value) (hown : w.ownsRow base e size v n xs)
    (A : Option Addr) (m c B : Nat) (news : List Value) (hl : news.length = m * size) (hr : Rd w B A news) (h1 : ∀ u ∈ news, u.oneCell' = true)
    (hbytes : (n + m) * bytes ≤ 140737488355328) (hsmall : n + m ≤ 140737488355328) (hbase : base ≤ w.heap.size) :
    ∃ v' w', (Builtin.append_ #[t, t] ty #[v, .slice A m c]).run P w = .ok v' w' ∧ w'.ownsRow base e size v' (n + m) (xs ++ news) ∧ w.grownBy w' v.ownBlock ∧
      (v'.ownBlock = v.ownBlock ∨ v'.ownBlock = some w.heap.size) := by
  obtain ⟨i, hi, hz0, hz1, hz2⟩ := info_parts hinfo
  cases A with
  | none =>
    have hn : news = [] := by
      cases news with
      | nil => rfl
      | cons u r =>
        obtain ⟨a, ha, _⟩ := hr 0 u rfl
        cases ha
    subst hn
    have hm : m = 0 := by
      rcases Nat.eq_zero_or_pos m with h0 | h0
      · exact h0
      · have := Nat.mul_pos h0 hsz
        simp only [List.length_nil] at hl
        omega
    subst hm
    refine ⟨v, w, ?_, by simpa using hown, World.grownBy.refl w _, .inl rfl⟩
    rcases hown.2 with ⟨rfl, rfl⟩ | ⟨g, cap, cur, rfl, _, _, hnc, _⟩
    · simp [Builtin.append_, run_underlying ht, sizeOf, typeInfo, hi, Builtin.lenOf, Builtin.firstCells]
    · simp [Builtin.append_, run_underlying ht, sizeOf, typeInfo, hi, Builtin.lenOf, Builtin.firstCells, hnc, storeCells]
  | some ad =>
    have hc : ∀ j u, news[j]? = some u → w.cell? (ad.add j) = some u := fun j u hu => by
      obtain ⟨a, ha, _, hc⟩ := hr j u hu
      injection ha with ha
      subst ha
      exact hc
    obtain ⟨v', w', hrun, h2, h3, _, h5⟩ := run_append_own_at (P := P) w base t ty e i z size bytes ht hi hz0 hz1 hz2 hzs hsz v n xs hown ad m c news hl hc h1 (by simp only [maxLen]; omega) hbytes hbase
    exact ⟨v', w', hrun, h2, h3, h5⟩

theorem wp_append_rd {o : Oper} {a : Act} {K : Act → World → Prop} {Q : Exit → Act → World → Prop} (s x : Operand) (t e : TypeId)
    (ho : o.op = .call { callee := .builtin .append, args := #[s, x], argTypes := #[t, t] }) (base : Nat) (z : Value) (size bytes : Nat)
    (ht : P.underlying t = some (.slice e)) (hinfo : (P.info? e).map (fun i => (i.zero, i.size, i.bytes)) = some (some z, size, bytes))
    (hzs : z.cells.size = size) (hsz : 0 < size) (v : Value) (n : Nat) (xs : List Value) (hs : a.eval s = v) (hown : w.ownsRow base e size v n xs)
    (A : Option Addr) (m c B : Nat) (news : List Value) (hx : a.eval x = .slice A m c) (hl : news.length = m * size) (hr : Rd w B A news) (h1 : ∀ u ∈ news, u.oneCell' = true)
    (hbytes : (n + m) * bytes ≤ 140737488355328) (hsmall : n + m ≤ 140737488355328) (hbase : base ≤ w.heap.size)
    (h : ∀ v' w', w'.ownsRow base e size v' (n + m) (xs ++ news) → w.grownBy w' v.ownBlock → (v'.ownBlock = v.ownBlock ∨ v'.ownBlock = some w.heap.size) → K (a.put o.dst v') w') : o.wp P a w K Q := by
  obtain ⟨v', w', hrun, h2, h3, h4⟩ := run_append_rd (P := P) w base t o.type e z size bytes ht hinfo hzs hsz v n xs hown A m c B news hl hr h1 hbytes hsmall hbase
  unfold Oper.wp execOp
  simp only [ho, resolve, invoke, builtin, Sem.run_bind, Sem.run_pure, Result.andThen_ok, List.map_toArray, List.map_cons, List.map_nil, hs, hx, hrun]
  exact h v' w' h2 h3 h4

theorem wpList_append_rd {ops : Array Oper} {rest : List Oper} {o : Oper} {a : Act} {Q : Exit → Act → World → Prop} (hgd : o.guard = none) (s x : Operand) (t e : TypeId)
    (ho : o.op = .call { callee := .builtin .append, args := #[s, x], argTypes := #[t, t] }) (base : Nat) (z : Value) (size bytes : Nat)
    (ht : P.underlying t = some (.slice e)) (hinfo : (P.info? e).map (fun i => (i.zero, i.size, i.bytes)) = some (some z, size, bytes))
    (hzs : z.cells.size = size) (hsz : 0 < size) (v : Value) (n : Nat) (xs : List Value) (hs : a.eval s = v) (hown : w.ownsRow base e size v n xs)
    (A : Option Addr) (m c B : Nat) (news : List Value) (hx : a.eval x = .slice A m c) (hl : news.length = m * size) (hr : Rd w B A news) (h1 : ∀ u ∈ news, u.oneCell' = true)
    (hbytes : (n + m) * bytes ≤ 140737488355328) (hsmall : n + m ≤ 140737488355328) (hbase : base ≤ w.heap.size)
    (h : ∀ v' w', w'.ownsRow base e size v' (n + m) (xs ++ news) → w.grownBy w' v.ownBlock → (v'.ownBlock = v.ownBlock ∨ v'.ownBlock = some w.heap.size) → wpList P ops Q rest (a.put o.dst v') w') : wpList P ops Q (o :: rest) a w :=
  wpList_plain hgd fun _ hK => wp_append_rd w s x t e ho base z size bytes ht hinfo hzs hsz v n xs hs hown A m c B news hx hl hr h1 hbytes hsmall hbase fun v' w' h2 h3 h4 => hK _ _ (h v' w' h2 h3 h4)
end

/-- The operation is this one (a cheap look ahead of a dear step), and what an index into an array tells. -/
theorem gate_op {P : Program} {w : World} {ops : Array Oper} {rest : List Oper} {o : Oper} {a : Act} {Q : Exit → Act → World → Prop} (p : Op) (ho : o.op = p) (h : wpList P ops Q (o :: rest) a w) : wpList P ops Q (o :: rest) a w := h
theorem wpList_index_of {P : Program} {w : World} {ops : Array Oper} {rest : List Oper} {o : Oper} {a : Act} {Q : Exit → Act → World → Prop} (hgd : o.guard = none) (t : TypeId) (x i : Operand) (ho : o.op = .index t x i)
    {vx vi v : Value} (hx : a.eval x = vx) (hi : a.eval i = vi) (hrun : (Instr.index t vx vi).run P w = .ok v w) (h : wpList P ops Q rest (a.put o.dst v) w) : wpList P ops Q (o :: rest) a w :=
  wpList_plain hgd fun K hK => by
    unfold Oper.wp execOp
    simp only [ho, hx, hi, Sem.run_bind, Sem.run_pure, Result.andThen_ok, hrun]
    exact hK _ _ h

theorem wpList_slice_of {P : Program} {w : World} {ops : Array Oper} {rest : List Oper} {o : Oper} {a : Act} {Q : Exit → Act → World → Prop} (hgd : o.guard = none) (t : TypeId) (x lo hi : Operand) (ho : o.op = .slice t x (some lo) (some hi) none)
    {vx vl vh v : Value} (hx : a.eval x = vx) (hl : a.eval lo = vl) (hh : a.eval hi = vh) (hrun : (Instr.sliceAt t vx (some vl) (some vh) none).run P w = .ok v w) (h : wpList P ops Q rest (a.put o.dst v) w) : wpList P ops Q (o :: rest) a w :=
  wpList_plain hgd fun K hK => by
    unfold Oper.wp execOp
    simp only [ho, hx, hl, hh, Option.map_some, Option.map_none, Sem.run_bind, Sem.run_pure, Result.andThen_ok, hrun]
    exact hK _ _ h

theorem rd_one (W : World) (y : Value) (e : TypeId) : Rd (W.alloc (.cells #[y] e)) (W.heap.size + 1) (some ⟨W.heap.size, 0, none⟩) [y] := fun j u hu =>
  ⟨_, rfl, by show W.heap.size < W.heap.size + 1; omega, cell_one_new W y e j u hu⟩

theorem rd_mark (W : World) (C : Array Value) (e : TypeId) (fr : Nat × Nat) : Rd (W.alloc (.cells C e fr)) (W.heap.size + 1) (some ⟨W.heap.size, 0, none⟩) C.toList := fun j u hu =>
  ⟨_, rfl, by show W.heap.size < W.heap.size + 1; omega, by
    rw [add_plain, Nat.zero_add]
    have h := heap_alloc_new W (.cells C e fr)
    simp only [World.cell?, h]
    simpa using hu⟩

theorem rd_mark_at (W : World) (C : Array Value) (e : TypeId) (fr : Nat × Nat) (g : Nat) (hg : g = W.heap.size) : Rd (W.alloc (.cells C e fr)) (g + 1) (some ⟨g, 0, none⟩) C.toList := by
  subst hg
  exact rd_mark W C e fr

/-- A row of one's own is grown: what was there stays. -/
theorem Kp.own {S : List Nat} {w0 W w1 : World} {base : Nat} {e : TypeId} {size n : Nat} {v : Value} {xs : List Value} (h : Kp S w0 W) (ho : W.ownsRow base e size v n xs) (hb : w0.heap.size ≤ base) (hg : W.grownBy w1 v.ownBlock) : Kp S w0 w1 :=
  h.grown hg (fun k hk hlt => by have := (ho.lt k hk).1; omega)

/-- 'append(v, y)' of one element of one cell, v a row of one's own. -/
theorem wpList_append_one {P : Program} (W : World) {ops : Array Oper} {rest : List Oper} {o : Oper} {a : Act} {Q : Exit → Act → World → Prop} (hgd : o.guard = none) (s x : Operand) (t e : TypeId)
    (ho : o.op = .call { callee := .builtin .append, args := #[s, x], argTypes := #[t, t] }) (base : Nat) (z : Value) (bytes : Nat)
    (ht : P.underlying t = some (.slice e)) (hinfo : (P.info? e).map (fun i => (i.zero, i.size, i.bytes)) = some (some z, 1, bytes))
    (hzs : z.cells.size = 1) (v : Value) (n : Nat) (xs : List Value) (y : Value) (hs : a.eval s = v) (hown : W.ownsRow base e 1 v n xs)
    (hx : a.eval x = .slice (some ⟨W.heap.size, 0, none⟩) 1 1) (h1 : y.oneCell' = true)
    (hbytes : (n + 1) * bytes ≤ 140737488355328) (hsmall : n + 1 ≤ 140737488355328) (hbase : base ≤ W.heap.size)
    (h : ∀ v' w', w'.ownsRow base e 1 v' (n + 1) (xs ++ [y]) → W.grownBy w' v.ownBlock → (v'.ownBlock = v.ownBlock ∨ ∃ b, v'.ownBlock = some b ∧ W.heap.size ≤ b) → wpList P ops Q rest (a.put o.dst v') w') :
    wpList P ops Q (o :: rest) a (W.alloc (.cells #[y] e)) :=
  wpList_append_rd (W.alloc (.cells #[y] e)) hgd s x t e ho base z 1 bytes ht hinfo hzs (by omega) v n xs hs (hown.alloc _) _ 1 1 _ [y] hx rfl (rd_one W y e)
    (by intro u hu; simp at hu; subst hu; exact h1) hbytes hsmall (by simp; omega) fun v' w' h2 h3 h4 => h v' w' h2 (World.grownBy.trans (World.grownBy_alloc W _ _) h3) (by
      rcases h4 with h4 | h4
      · exact .inl h4
      · exact .inr ⟨_, h4, by simp⟩)

/-! ### Whole numbers as cells -/
def ints (k : IntKind) (xs : List Int) : List Value := xs.map (.int k)
theorem ints_length (k : IntKind) (xs : List Int) : (ints k xs).length = xs.length := by simp [ints]
theorem ints_append (k : IntKind) (xs ys : List Int) : ints k (xs ++ ys) = ints k xs ++ ints k ys := by simp [ints]
theorem ints_one (k : IntKind) (xs : List Int) : ∀ u ∈ ints k xs, u.oneCell' = true := by
  intro u hu
  simp only [ints, List.mem_map] at hu
  obtain ⟨x, _, rfl⟩ := hu
  rfl
theorem ints_get (k : IntKind) (xs : List Int) (j : Nat) (hj : j < xs.length) : (ints k xs)[j]? = some (.int k (xs.getD j 0)) := by
  simp [ints, List.getElem?_eq_getElem hj, List.getD_eq_getElem?_getD]
theorem Rd.int {w : World} {B : Nat} {A : Option Addr} {k : IntKind} {xs : List Int} (h : Rd w B A (ints k xs)) {j : Nat} (hj : j < xs.length) : ∃ a, A = some a ∧ w.cell? (a.add j) = some (.int k (xs.getD j 0)) := by
  obtain ⟨a, rfl, _, hc⟩ := h j _ (ints_get k xs j hj)
  exact ⟨a, rfl, hc⟩

/-- The text of bytes that a slice reads. -/
theorem run_string_rd {P : Program} (w : World) (src dst e : TypeId) (hs : P.underlying src = some (.slice e)) (he : P.underlying e = some (.int .u8)) (hd : P.underlying dst = some .string)
    (A : Option Addr) (n c B : Nat) (xs : List Int) (hl : xs.length = n) (hr : Rd w B A (ints .u8 xs)) : (convert src dst (.slice A n c)).run P w = .ok (.string (strOfNums xs)) w := by
  cases A with
  | none =>
    have hx : xs = [] := by
      cases xs with
      | nil => rfl
      | cons x r =>
        obtain ⟨a, ha, _⟩ := hr 0 (.int .u8 x) rfl
        cases ha
    subst hx
    exact run_convert_bytes_nil w src e hs he n c dst hd
  | some a =>
    have hload : (loadCells a n).run P w = .ok (ints .u8 xs).toArray w := by
      have h0 := run_loadCells_list (P := P) w a (ints .u8 xs) (fun j u hu => by
        obtain ⟨b, hb, _, hc⟩ := hr j u hu
        injection hb with hb
        subst hb
        exact hc)
      rw [ints_length, hl] at h0
      exact h0
    rw [run_convert_bytes_string w src dst e _ n c hs he hd, run_bytesToString w a n c xs hload, foldl_push_bytes]
    simp [strOfNums, ByteArray.empty, ByteArray.emptyWithCapacity]
    rfl

theorem strOfNums_inj {xs ys : List Int} (hx : ∀ x ∈ xs, 0 ≤ x ∧ x < 256) (hy : ∀ x ∈ ys, 0 ≤ x ∧ x < 256) (h : strOfNums xs = strOfNums ys) : xs = ys := by
  have h1 : xs.map (fun n => UInt8.ofNat n.toNat) = ys.map (fun n => UInt8.ofNat n.toNat) := by
    rw [← strOfNums_data, ← strOfNums_data, h]
  have h2 := congrArg (List.map fun b : UInt8 => (b.toNat : Int)) h1
  rw [List.map_map, List.map_map] at h2
  have h3 : ∀ zs : List Int, (∀ x ∈ zs, 0 ≤ x ∧ x < 256) → zs.map ((fun b : UInt8 => (b.toNat : Int)) ∘ fun n => UInt8.ofNat n.toNat) = zs := fun zs hz => by
    conv => rhs; rw [← List.map_id zs]
    refine List.map_congr_left fun x hm => ?_
    have := hz x hm
    simp only [Function.comp, UInt8.toNat_ofNat', id]
    omega
  rwa [h3 xs hx, h3 ys hy] at h2

/-- A row of one's own, as a slice that is read. -/
theorem own_read {w : World} {base : Nat} {e : TypeId} {size n : Nat} {v : Value} {xs : List Value} (h : w.ownsRow base e size v n xs) :
    ∃ A c, v = .slice A n c ∧ n ≤ c ∧ (A = none → c = 0) ∧ Rd w w.heap.size A xs := by
  rcases h.2 with ⟨rfl, rfl⟩ | ⟨g, cap, cur, rfl, hb, hh, hn, _⟩
  · exact ⟨none, 0, rfl, Nat.le_refl _, fun _ => rfl, Rd.of_own h⟩
  · exact ⟨_, cap, rfl, hn, (fun h => by cases h), Rd.of_own h⟩

/-! ### Arguments opened -/
/-- A slice of whole numbers that came in. -/
structure IntSl (w : World) (k : IntKind) (bytes : Nat) (A : Option Addr) (n c : Nat) (xs : List Int) : Prop where
  nil : A = none → c = 0
  le : n ≤ c
  len : xs.length = n
  rd : Rd w w.heap.size A (ints k xs)
  small : n * bytes ≤ 140737488351232
  wf : ∀ x ∈ xs, (Lit.int k x).wf = true

theorem open_slice_ints {H : Type} {enc : TypeId × Value → H} {P : Program} {W : World} {base : Nat} {t e : TypeId} {k : IntKind} {bytes : Nat} {v : Value} {d : DataW H} {p : List MemPlace}
    {ts : List TypeId} {ds : List (DataW H)} {j : Nat} (hu : P.underlying t = some (.slice e)) (he : P.underlying e = some (.int k)) (hc : P.cellsOf e = 1) (hb : P.bytesOf e = bytes)
    (hsz : (DataW.weightsEach P ts ds).all (· ≤ reachBytes) = true) (ht : ts[j]? = some t) (hd : ds[j]? = some d)
    (hv : Value.okWide P W .any base t v) (h : DataW.Trod enc P W 0 (fun _ => true) true t v d p) : ∃ A n c xs, v = .slice A n c ∧ IntSl W k bytes A n c xs := by
  obtain ⟨A, n, c, rfl⟩ := okWide_slice hu hv
  obtain ⟨fuel, hf⟩ := h
  rcases open_ints hu he hc hf with ⟨hcs, _⟩ | ⟨x, l, c', zs, hcs, _, hl, hm, hz, hx, hcell, hwz⟩
  · simp [Value.cells] at hcs
    obtain ⟨rfl, rfl, rfl⟩ := hcs
    exact ⟨none, 0, 0, [], rfl, ⟨fun _ => rfl, Nat.le_refl _, rfl, Rd.nil _ _ _, by omega, by simp⟩⟩
  · simp [Value.cells] at hcs
    obtain ⟨rfl, rfl, rfl⟩ := hcs
    have hzl : zs.length = c := by simpa using hz
    obtain ⟨hx1, _⟩ := Prod.mk.inj hx
    subst hx1
    have z := sized_slice hsz ht hd hu
    rw [hb] at z
    have h1 : (lits (H := H) k (zs.take n)).length + (lits (H := H) k (zs.drop n)).length = c := by
      simp [lits]
      omega
    rw [h1] at z
    refine ⟨_, n, c, zs.take n, rfl, ⟨(fun h => by cases h), hl, (by simp; omega), fun i u hu => ?_, ?_, fun y hy => hwz y (List.mem_of_mem_take hy)⟩⟩
    · have hi : i < (zs.take n).length := by
        rcases Nat.lt_or_ge i (zs.take n).length with h | h
        · exact h
        · rw [List.getElem?_eq_none (by rw [ints_length]; exact h)] at hu
          cases hu
      have hi2 : i < zs.length := by simp at hi; omega
      have hcc := hcell i hi2
      refine ⟨x, rfl, ?_, ?_⟩
      · have := World.block_lt_of_cell? W _ hcc
        rwa [add_block] at this
      · rw [ints_get k _ i hi] at hu
        injection hu with hu
        subst hu
        rw [hcc]
        have hi3 : i < n := by
          rw [List.length_take] at hi
          omega
        simp [List.getD_eq_getElem?_getD, List.getElem?_take, hi3]
    · exact Nat.le_trans (Nat.mul_le_mul_right _ hl) z

/-! ### The row of a law out of its walk -/
theorem below_trodAll {H : Type} {enc : TypeId × Value → H} {P : Program} (hl : laidOutB P = true) {W W' : World} (hb : Below W.heap.size W W') :
    ∀ {ts : List TypeId} {vs : List Value} {ds : List (DataW H)} {ps : List MemPlace}, (∀ t ∈ ts, P.readableRec t = true ∧ t < P.types.size) →
      DataW.TrodAll enc P W 0 (fun _ => true) true ts vs ds ps → (∀ x ∈ ps, x.block < W.heap.size) → DataW.TrodAll enc P W' 0 (fun b => decide (b < W.heap.size)) true ts vs ds ps
  | [], [], [], _, _, h, _ => h
  | t :: ts, v :: vs, d :: ds, ps, ht, h, hp => by
    obtain ⟨p, q, h1, h2, rfl⟩ := h
    refine ⟨p, q, Below.trod hl (ht t (by simp)).1 (ht t (by simp)).2 h1 hb (fun x hx => hp x (by simp [hx])), ?_, rfl⟩
    exact below_trodAll hl hb (fun u hu => ht u (by simp [hu])) h2 (fun x hx => hp x (by simp [hx]))
  | [], _ :: _, _, _, _, h, _ => h.elim
  | [], [], _ :: _, _, _, h, _ => h.elim
  | _ :: _, [], _, _, _, h, _ => h.elim
  | _ :: _, _ :: _, [], _, _, h, _ => h.elim

theorem trodAll_length {H : Type} {enc : TypeId × Value → H} {P : Program} {W : World} {base : Nat} {sp : Nat → Bool} {hd : Bool} : ∀ {ts : List TypeId} {vs : List Value} {es : List (DataW H)} {ps : List MemPlace},
    DataW.TrodAll enc P W base sp hd ts vs es ps → es.length = ts.length := by
  intro ts
  induction ts with
  | nil =>
    intro vs es ps h
    match vs, es, h with
    | [], [], _ => rfl
  | cons t ts ih =>
    intro vs es ps h
    match vs, es, h with
    | v :: vs, d :: es, h =>
      obtain ⟨_, _, _, h2, _⟩ := h
      simp [ih h2]

/-- A law's row: whatever the arguments read as, the call returns true and leaves what was there as it was. -/
theorem lifted_of_walk {H : Type} {enc : TypeId × Value → H} {C : Checked} {os : Os} {f : FuncId} {fn : Func} {s : ChangeSpec} {tb : TypeId}
    (own : ownKnob C.prog.godebug = none) (started : os.Started) (noInit : C.prog.inits.idxOf? f = none) (hfn : C.prog.funcs[f]? = some fn)
    (witness : ∃ (w : World) (tape : Tape) (i : Input), w.os = os ∧ (w.forCall tape i).Shaped C.prog ∧ i.vars = [] ∧ Input.okWide C.prog (w.forCall tape i) .any w.heap.size f i ∧
      s.pre6 enc C.prog fn [] false (w.forCall tape i).memory i.args ∧ ({} : Assume).holds C.prog (lone (Frame.enter C.prog f i.args .normal) [] (w.forCall tape i)))
    (hl : laidOutB C.prog = true) (hr : (fn.params.toList.all fun t => C.prog.readableRec t && decide (t < C.prog.types.size)) = true) (hrt : fn.resultTypes = #[tb]) (hb : C.prog.underlying tb = some .bool)
    (hsv : s.vars = []) (hsp : ∀ ds : List (DataW H), ds.length = fn.params.size → s.fn H ds = { results := [.lit (.bool true)], args := ds })
    (walk : ∀ (W : World) (args : Array Value) (ds : List (DataW H)) (ps : List MemPlace) (base : Nat), DataW.TrodAll enc C.prog W 0 (fun _ => true) true fn.params.toList args.toList ds ps →
      (∀ (j : Nat) t v, fn.params[j]? = some t → args[j]? = some v → Value.okWide C.prog W .any base t v) →
      (DataW.weightsEach C.prog fn.params.toList ds).all (· ≤ reachBytes) = true →
      Calls C.prog f args W fun e W' => e = .returned (.bool true) ∧ Kp [] W W') :
    ReturnsInHanded {} C os f .any (s.pre6 enc C.prog fn [] false) (s.post enc C.prog fn false true false false) := by
  refine returnsInHanded_of_change_sized own started noInit hfn witness ?_
  intro W base args ds gs before hval hW _ hsz _
  have hW' := hW
  obtain ⟨p, q, hA, hV, rfl, hfz, hnd⟩ := hW
  rw [hsv] at hV
  obtain ⟨rfl, rfl⟩ := trodVars_none hV
  have hvt : s.plain.varTypes C.prog = [] := by simp [ChangeSpec.plain, DataSpec.varTypes, hsv]
  rw [hvt] at hsz
  simp only [List.append_nil] at hsz hW'
  refine (walk W args ds p base hA hval hsz).mono fun e W' ⟨he, hk⟩ => ?_
  subst he
  have hlen : ds.length = fn.params.size := by rw [trodAll_length hA, Array.length_toList]
  have hlt : ∀ x ∈ p, x.block < W.heap.size := fun x hx => hW'.lt x hx
  have hrr : ∀ t ∈ fn.params.toList, C.prog.readableRec t = true ∧ t < C.prog.types.size := fun t ht => by
    have h0 := List.all_eq_true.1 hr t ht
    simpa using h0
  have hs := hsp ds hlen
  have hvars : (s.fn H ds).vars = [] := by rw [hs]
  refine ⟨_, rfl, ds, [], p, [], p, [], hW', ?_, ?_, ?_, hk.below.frame _, fun h => by cases h⟩
  · rw [List.append_nil, hs, hrt]
    exact trodAll_mk1 (shut_bool hb _)
  · rw [List.append_nil, hs]
    exact below_trodAll hl hk.below hrr hA hlt
  · rw [List.append_nil, hvars, hsv]
    exact rfl

end Go.Proofs.YtmliknefakoplaaDoor
