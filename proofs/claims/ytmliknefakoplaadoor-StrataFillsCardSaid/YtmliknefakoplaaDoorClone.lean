/- slices.Clone of bytes: a row of its own with the same bytes; nil stays nil. -/
import Derived.Test.YtmliknefakoplaaDoorDiv
namespace Go.Proofs.YtmliknefakoplaaDoor
open Go.RowKit
set_option linter.unusedVariables false
set_option linter.unusedSimpArgs false
theorem u8_info : (Tryd.prog.info? 5).map (fun i => (i.zero, i.size, i.bytes)) = some (some (.int .u8 0), 1, 1) := by kernel_rfl

set_option maxHeartbeats 400000 in
theorem clone_bytes_some (a : Addr) (n c B : Nat) (xs : List Value) (w : World) (hl : xs.length = n) (hr : Rd w B (some a) xs) (h1 : ∀ u ∈ xs, u.oneCell' = true) (hn : n ≤ 140737488351232) :
    Calls Tryd.prog 21 #[.slice (some a) n c] w fun e w' => ∃ v, e = .returned v ∧ w'.ownsRow w.heap.size 5 1 v n xs ∧ Kp [] w w' := by
  have HL := Lib.hid hl
  clear hl
  have hq := Lib.run_eql_slice_nil (P := Tryd.prog) w 32 5 (some a) n c 0 0 Tryd.underlying32
  go_enter Tryd.func21, Tryd.ntmps21
  go_wp2_with (at_builtin; refine wpList_append_rd _ rfl (.tmp 5) (.tmp 6) 32 5 rfl w.heap.size (.int .u8 0) 1 1 Tryd.underlying32 u8_info rfl (by omega) (.slice (some ⟨w.heap.size, 0, none⟩) 0 0) 0 [] rfl (World.ownsRow_made w #[] 0 (Nat.le_refl _) (by simp [maxLen]) rfl) (some a) n c B xs rfl (by rw [HL.out, Nat.mul_one]) (hr.kp0 ((Kp.refl [] w).alloc _)) h1 (by omega) (by omega) (by simp) ?_; intro v1 w1 hown1 hg1 hat1)
  go_ret
  refine ⟨v1, rfl, by simpa using hown1, ((Kp.refl [] w).alloc _).grown hg1 ?_⟩
  intro k hk hlt
  simp [Value.ownBlock] at hk
  omega

set_option maxHeartbeats 400000 in
theorem clone_bytes_nil (w : World) :
    Calls Tryd.prog 21 #[.slice none 0 0] w fun e w' => e = .returned (.slice none 0 0) ∧ w = w' := by
  have hq := Lib.run_eql_slice_nil (P := Tryd.prog) w 32 5 none 0 0 0 0 Tryd.underlying32
  go_enter Tryd.func21, Tryd.ntmps21
  go_wp2
  go_ret
  exact ⟨rfl, rfl⟩

/-- Whatever slice of bytes. -/
theorem clone_bytes (A : Option Addr) (n c B : Nat) (xs : List Value) (w : World) (hA : A = none → c = 0) (hc : n ≤ c) (hl : xs.length = n) (hr : Rd w B A xs) (h1 : ∀ u ∈ xs, u.oneCell' = true) (hn : n ≤ 140737488351232) :
    Calls Tryd.prog 21 #[.slice A n c] w fun e w' => ∃ v, e = .returned v ∧ w'.ownsRow w.heap.size 5 1 v n xs ∧ Kp [] w w' := by
  cases A with
  | some a => exact clone_bytes_some a n c B xs w hl hr h1 hn
  | none =>
    obtain rfl : c = 0 := hA rfl
    obtain rfl : n = 0 := by omega
    obtain rfl : xs = [] := List.eq_nil_of_length_eq_zero hl
    refine (clone_bytes_nil w).mono fun e w' ⟨he, hw⟩ => ?_
    subst hw
    exact ⟨_, he, World.ownsRow_nil _ _ _ _, Kp.refl _ _⟩
end Go.Proofs.YtmliknefakoplaaDoor
