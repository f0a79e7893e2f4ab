/- What some cells hold, and that a call leaves it. -/
import Derived.Deep.RegionHeld3
import Derived.Test.YthjbapjmlkbeoaaBoxed
namespace Go.Proofs.Ythjbapjmlkbeoaa
open Go.RowKit
set_option linter.unusedVariables false
set_option linter.unusedSimpArgs false

/-- Each of these cells holds its value. -/
def Has (w : World) : List (Addr × Value) → Prop
  | [] => True
  | [x] => w.cell? x.1 = some x.2
  | x :: y :: r => w.cell? x.1 = some x.2 ∧ Has w (y :: r)
theorem Has.kp {w w' : World} : ∀ {l : List (Addr × Value)}, Has w l → Kp [] w w' → Has w' l
  | [], _, _ => trivial
  | [x], h, k => k.cell h (by simp)
  | x :: y :: r, h, k => ⟨k.cell h.1 (by simp), Has.kp (l := y :: r) h.2 k⟩
theorem Has.drew {w : World} : ∀ {l : List (Addr × Value)}, Has w l → Has w.drew l
  | [], _ => trivial
  | [x], h => h
  | x :: y :: r, h => ⟨h.1, Has.drew (l := y :: r) h.2⟩
theorem Has.drewN {w : World} (n : Nat) : ∀ {l : List (Addr × Value)}, Has w l → Has (w.drewN n) l
  | [], _ => trivial
  | [x], h => h
  | x :: y :: r, h => ⟨h.1, Has.drewN n (l := y :: r) h.2⟩
theorem Has.setFar {w : World} {p : Addr} (v : Value) : ∀ {l : List (Addr × Value)}, Has w l → (∀ q ∈ l, q.1.block ≠ p.block) → Has (w.setCell p v) l
  | [], _, _ => trivial
  | [x], h, hp => (World.cell?_of_block (Below.heap_setCell w p v _ (hp x (by simp)))).trans h
  | x :: y :: r, h, hp => ⟨(World.cell?_of_block (Below.heap_setCell w p v _ (hp x (by simp)))).trans h.1, Has.setFar (l := y :: r) v h.2 (fun q hq => hp q (by simp [hq]))⟩
theorem Has.app {w : World} : ∀ {l m : List (Addr × Value)}, Has w l → Has w m → Has w (l ++ m)
  | [], _, _, k => k
  | [x], [], h, _ => h
  | [x], y :: r, h, k => ⟨h, k⟩
  | x :: y :: r, _, h, k => ⟨h.1, Has.app (l := y :: r) h.2 k⟩
/-- A block that was just laid. -/
theorem has_new2 (w : World) (t : TypeId) (a b : Value) : Has (w.alloc (.cells #[a, b] t)) [(⟨w.heap.size, 0, none⟩, a), (⟨w.heap.size, 1, none⟩, b)] :=
  ⟨(Bk.new w t #[a, b]).cell 0, (Bk.new w t #[a, b]).cell 1⟩
theorem has_new3 (w : World) (t : TypeId) (a b c : Value) : Has (w.alloc (.cells #[a, b, c] t)) [(⟨w.heap.size, 0, none⟩, a), (⟨w.heap.size, 1, none⟩, b), (⟨w.heap.size, 2, none⟩, c)] :=
  ⟨(Bk.new w t #[a, b, c]).cell 0, (Bk.new w t #[a, b, c]).cell 1, (Bk.new w t #[a, b, c]).cell 2⟩
theorem has_new6 (w : World) (t : TypeId) (a b c d e f : Value) : Has (w.alloc (.cells #[a, b, c, d, e, f] t)) [(⟨w.heap.size, 0, none⟩, a), (⟨w.heap.size, 1, none⟩, b), (⟨w.heap.size, 2, none⟩, c), (⟨w.heap.size, 3, none⟩, d), (⟨w.heap.size, 4, none⟩, e), (⟨w.heap.size, 5, none⟩, f)] :=
  ⟨(Bk.new w t #[a, b, c, d, e, f]).cell 0, (Bk.new w t #[a, b, c, d, e, f]).cell 1, (Bk.new w t #[a, b, c, d, e, f]).cell 2, (Bk.new w t #[a, b, c, d, e, f]).cell 3, (Bk.new w t #[a, b, c, d, e, f]).cell 4, (Bk.new w t #[a, b, c, d, e, f]).cell 5⟩
theorem Has.alloc {w : World} {l : List (Addr × Value)} (h : Has w l) (o : Obj) : Has (w.alloc o) l := h.kp ((Kp.refl [] w).alloc o)
theorem has6 {w : World} {b : Nat} {v0 v1 v2 v3 v4 v5 : Value} (h : Has w [(⟨b, 0, none⟩, v0), (⟨b, 1, none⟩, v1), (⟨b, 2, none⟩, v2), (⟨b, 3, none⟩, v3), (⟨b, 4, none⟩, v4), (⟨b, 5, none⟩, v5)]) :
    w.cell? ⟨b, 0, none⟩ = some v0 ∧ w.cell? ⟨b, 1, none⟩ = some v1 ∧ w.cell? ⟨b, 2, none⟩ = some v2 ∧ w.cell? ⟨b, 3, none⟩ = some v3 ∧ w.cell? ⟨b, 4, none⟩ = some v4 ∧ w.cell? ⟨b, 5, none⟩ = some v5 := h
theorem has3 {w : World} {b : Nat} {v0 v1 v2 : Value} (h : Has w [(⟨b, 0, none⟩, v0), (⟨b, 1, none⟩, v1), (⟨b, 2, none⟩, v2)]) : w.cell? ⟨b, 0, none⟩ = some v0 ∧ w.cell? ⟨b, 1, none⟩ = some v1 ∧ w.cell? ⟨b, 2, none⟩ = some v2 := h
theorem has2 {w : World} {b : Nat} {v0 v1 : Value} (h : Has w [(⟨b, 0, none⟩, v0), (⟨b, 1, none⟩, v1)]) : w.cell? ⟨b, 0, none⟩ = some v0 ∧ w.cell? ⟨b, 1, none⟩ = some v1 := h
end Go.Proofs.Ythjbapjmlkbeoaa
