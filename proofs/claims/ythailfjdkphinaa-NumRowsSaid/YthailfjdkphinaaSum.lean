/- num.Sum: a sum of bytes. -/
import Derived.Test.YthailfjdkphinaaClone
namespace Go.Proofs.Ythailfjdkphinaa
open Go.RowKit
set_option linter.unusedVariables false
set_option linter.unusedSimpArgs false
/-- A byte more. -/
def mixb (x : Nat) (c : Int) : Nat := ((x ^^^ c.toNat) * 16777619) % 4294967296
def sumb (x : Nat) (l : List Int) : Nat := l.foldl mixb x

theorem mixb_lt (x : Nat) (c : Int) : mixb x c < 4294967296 := Nat.mod_lt _ (by decide)
theorem sumb_lt (l : List Int) : ∀ x, x < 4294967296 → sumb x l < 4294967296 := by
  induction l with
  | nil => intro x h; exact h
  | cons c r ih => intro x _; exact ih _ (mixb_lt x c)
theorem foldl_snoc {α β : Type} (f : α → β → α) (x : α) (l : List β) (c : β) : (l ++ [c]).foldl f x = f (l.foldl f x) c := by simp
theorem sumb_snoc (x : Nat) (l : List Int) (c : Int) : sumb x (l ++ [c]) = mixb (sumb x l) c := foldl_snoc mixb x l c
theorem mixb_walk {x : Nat} {c : Int} (hx : x < 4294967296) (h0 : 0 ≤ c) (h1 : c < 256) : bits .xor .u32 (x : Int) c * 16777619 % 4294967296 = (mixb x c : Int) := by
  obtain ⟨k, rfl⟩ := Int.eq_ofNat_of_zero_le h0
  rw [u32_xor_nat x k hx (by omega)]
  unfold mixb
  rw [Int.toNat_natCast]
  omega
theorem take_next (xs : List Int) (k : Nat) (h : k < xs.length) : xs.take (k + 1) = xs.take k ++ [xs.getD k 0] := by
  rw [List.take_succ_eq_append_getElem h, List.getD_eq_getElem?_getD, List.getElem?_eq_getElem h]
  rfl

set_option maxRecDepth 20000 in
set_option maxHeartbeats 400000 in
theorem num_Sum (A : Option Addr) (n c B : Nat) (xs : List Int) (w : World) (hl : xs.length = n) (hr : Rd w B A (ints .u8 xs)) (hn : n ≤ 140737488355328) (hx : ∀ x ∈ xs, 0 ≤ x ∧ x < 256) :
    Calls Try.prog 20 #[.slice A n c] w fun e w' => e = .returned (.int .u32 (sumb 2166136261 xs)) ∧ w = w' := by
  have HL := Lib.hid hl
  have HX := Lib.hid hx
  clear hl hx
  go_enter Try.func20, Try.ntmps20
  go_wp2
  go_loop [3, 8] (fun v i => ∃ (k : Nat), i = .int .i64 k ∧ v = .int .u32 (sumb 2166136261 (xs.take k)) ∧ k ≤ n) (fun _ i => n - (intOf i).toNat)
  case atStart => exact ⟨0, rfl, rfl, by omega⟩
  case round =>
    obtain ⟨k, rfl, rfl, hkn⟩ := hrel
    by_cases hlt : k < n
    · obtain ⟨a, rfl, hc⟩ := hr.int (j := k) (by rw [HL.out]; exact hlt)
      have hbm : 0 ≤ xs.getD k 0 ∧ xs.getD k 0 < 256 := HX.out _ (by
        rw [List.getD_eq_getElem?_getD, List.getElem?_eq_getElem (by rw [HL.out]; exact hlt)]
        exact List.getElem_mem _)
      have HT := Lib.hid (take_next xs k (by rw [HL.out]; exact hlt))
      have HM := Lib.hid (mixb_walk (sumb_lt (xs.take k) 2166136261 (by omega)) hbm.1 hbm.2)
      generalize xs.getD k 0 = b at *
      go_wp2
      go_round
      case rel =>
        refine ⟨k + 1, by go_num, ?_, by omega⟩
        rw [HT.out, sumb_snoc, ← HM.out]
      case measure =>
        simp [intOf]
        omega
    · go_wp2
      go_ret
      refine ⟨?_, rfl⟩
      rw [List.take_of_length_le (by rw [HL.out]; omega)]
      rfl

theorem num_Sum_of (A : Option Addr) (n c B : Nat) (xs : List Int) (r : Int) (w : World) (hl : xs.length = n) (hr : Rd w B A (ints .u8 xs)) (hn : n ≤ 140737488355328) (hx : ∀ x ∈ xs, 0 ≤ x ∧ x < 256) (hg : (sumb 2166136261 xs : Int) = r) :
    Calls Try.prog 20 #[.slice A n c] w fun e w' => e = .returned (.int .u32 r) ∧ w = w' := by
  have h := num_Sum A n c B xs w hl hr hn hx
  rw [hg] at h
  exact h
end Go.Proofs.Ythailfjdkphinaa
