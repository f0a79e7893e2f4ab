/- What a block laid ahead of a call holds behind it. -/
import Derived.Test.YthjbapjmlkbeoaaBase
namespace Go.Proofs.Ythjbapjmlkbeoaa
open Go.RowKit
set_option linter.unusedVariables false
set_option linter.unusedSimpArgs false

section
variable {S : List Nat} {w w1 : World} {t : TypeId} {a b c d e f : Value}
theorem boxed (cs : Array Value) (k : Kp S (w.alloc (.cells cs t)) w1) (hS : w.heap.size ∉ S) (i : Nat) : w1.cell? ⟨w.heap.size, i, none⟩ = cs[i]? :=
  ((Bk.new w t cs).kp k hS).cell i
theorem boxed_fr (cs : Array Value) (k : Kp S (w.alloc (.cells cs t)) w1) (hS : w.heap.size ∉ S) (i : Nat) : w1.frozen? ⟨w.heap.size, i, none⟩ = false :=
  ((Bk.new w t cs).kp k hS).frozen i
theorem box1 (k : Kp S (w.alloc (.cells #[a] t)) w1) (hS : w.heap.size ∉ S) : w1.cell? ⟨w.heap.size, 0, none⟩ = some a := boxed _ k hS 0
theorem box2 (k : Kp S (w.alloc (.cells #[a, b] t)) w1) (hS : w.heap.size ∉ S) : w1.cell? ⟨w.heap.size, 0, none⟩ = some a ∧ w1.cell? ⟨w.heap.size, 1, none⟩ = some b :=
  ⟨boxed _ k hS 0, boxed _ k hS 1⟩
theorem box3 (k : Kp S (w.alloc (.cells #[a, b, c] t)) w1) (hS : w.heap.size ∉ S) : w1.cell? ⟨w.heap.size, 0, none⟩ = some a ∧ w1.cell? ⟨w.heap.size, 1, none⟩ = some b ∧ w1.cell? ⟨w.heap.size, 2, none⟩ = some c :=
  ⟨boxed _ k hS 0, boxed _ k hS 1, boxed _ k hS 2⟩
theorem box6 (k : Kp S (w.alloc (.cells #[a, b, c, d, e, f] t)) w1) (hS : w.heap.size ∉ S) : w1.cell? ⟨w.heap.size, 0, none⟩ = some a ∧ w1.cell? ⟨w.heap.size, 1, none⟩ = some b ∧ w1.cell? ⟨w.heap.size, 2, none⟩ = some c ∧
    w1.cell? ⟨w.heap.size, 3, none⟩ = some d ∧ w1.cell? ⟨w.heap.size, 4, none⟩ = some e ∧ w1.cell? ⟨w.heap.size, 5, none⟩ = some f :=
  ⟨boxed _ k hS 0, boxed _ k hS 1, boxed _ k hS 2, boxed _ k hS 3, boxed _ k hS 4, boxed _ k hS 5⟩
end
end Go.Proofs.Ythjbapjmlkbeoaa
