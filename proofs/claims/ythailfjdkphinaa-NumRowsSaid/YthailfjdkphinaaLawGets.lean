/- NumGets: the program and the reference read the same off any bytes. -/
import Derived.Test.YthailfjdkphinaaAwake01
import Derived.Test.YthailfjdkphinaaRefGet
namespace Go.Proofs.Ythailfjdkphinaa
open Go.RowKit
set_option linter.unusedVariables false
set_option linter.unusedSimpArgs false

theorem IntSl.u8 {w : World} {b : Nat} {A : Option Addr} {n c : Nat} {xs : List Int} (h : IntSl w .u8 b A n c xs) : ∀ x ∈ xs, 0 ≤ x ∧ x < 256 := fun x hx => by
  have h1 := h.wf x hx
  simp only [Lit.wf, Bool.and_eq_true, decide_eq_true_eq] at h1
  have h2 : 0 ≤ x ∧ x ≤ 255 := h1
  omega

set_option maxRecDepth 20000 in
set_option maxHeartbeats 1000000 in
theorem NumGets_walk (w : World) (A : Option Addr) (n c : Nat) (xs : List Int) (h : IntSl w .u8 1 A n c xs) :
    Calls Try.prog 5 #[.slice A n c] w fun e w' => e = .returned (.bool true) ∧ Kp [] w w' := by
  have hn : n ≤ 140737488355328 := by have := h.small; omega
  have h1 := fun (W : World) (hr : Rd W w.heap.size A (ints .u8 xs)) => num_Get A n c _ xs W h.len hr hn h.u8
  have h2 := fun (W : World) (hr : Rd W w.heap.size A (ints .u8 xs)) => ref_Get A n c _ xs W h.len hr hn h.u8
  generalize (gt 0 0 xs).1 = r1 at *
  generalize (gt 0 0 xs).2 = r2 at *
  have H1 := Lib.hid h1
  have H2 := Lib.hid h2
  have hr := h.rd
  clear h1 h2 h hn
  go_enter Try.func5, Try.ntmps5
  go_wp2_with (first | (go_at_call 11; refine (awake _).mono ?_; rintro e w1 ⟨rfl, hk1⟩) | (go_at_call 18; refine (H1.out _ (hr.kp0 hk1)).mono ?_; rintro e w2 ⟨rfl, rfl⟩) | (go_at_call 19; refine (H2.out _ (hr.kp0 hk1)).mono ?_; rintro e w2 ⟨rfl, rfl⟩))
  go_ret
  exact ⟨rfl, hk1⟩
end Go.Proofs.Ythailfjdkphinaa
