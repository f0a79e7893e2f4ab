/- slices.Max of bytes. -/
import Derived.Test.YtnppdhaphnemfaaClone
namespace Go.Proofs.Ytnppdhaphnemfaa
open Go.RowKit
set_option linter.unusedVariables false
set_option linter.unusedSimpArgs false

/-- The greatest of the first n. -/
def mx (xs : List Int) : Nat → Int
  | 0 => 0
  | n + 1 => if xs.getD n 0 > mx xs n then xs.getD n 0 else mx xs n
theorem mx_range (xs : List Int) (hx : ∀ x ∈ xs, 0 ≤ x ∧ x < 256) : ∀ n, n ≤ xs.length → 0 ≤ mx xs n ∧ mx xs n < 256
  | 0, _ => by simp [mx]
  | n + 1, h => by
    have h1 := mx_range xs hx n (by omega)
    have h2 := hx (xs.getD n 0) (by
      rw [List.getD_eq_getElem?_getD, List.getElem?_eq_getElem (by omega)]
      exact List.getElem_mem _)
    rw [mx]
    split <;> omega
theorem mx_le (xs : List Int) (b : Int) (hb : 0 ≤ b) : ∀ n, n ≤ xs.length → (mx xs n ≤ b ↔ ∀ i, i < n → xs.getD i 0 ≤ b)
  | 0, _ => by simp [mx, hb]
  | n + 1, h => by
    have h1 := mx_le xs b hb n (by omega)
    rw [mx]
    constructor
    · intro h2 i hi
      split at h2
      · rcases Nat.lt_or_ge i n with h3 | h3
        · exact h1.1 (by omega) i h3
        · obtain rfl : i = n := by omega
          exact h2
      · rcases Nat.lt_or_ge i n with h3 | h3
        · exact h1.1 h2 i h3
        · obtain rfl : i = n := by omega
          omega
    · intro h2
      have h3 := h1.2 fun i hi => h2 i (by omega)
      have h4 := h2 n (by omega)
      split <;> omega

set_option maxRecDepth 20000 in
set_option maxHeartbeats 400000 in
theorem max_bytes (A : Option Addr) (n c B : Nat) (xs : List Int) (w : World) (hl : xs.length = n) (hr : Rd w B A (ints .u8 xs)) (hn : (n : Int) ≤ 140737488355328) (h0 : (1 : Int) ≤ n) (hx : ∀ x ∈ xs, 0 ≤ x ∧ x < 256) :
    Calls Try.prog 35 #[.slice A n c] w fun e w' => e = .returned (.int .u8 (mx xs n)) ∧ w = w' := by
  have HL := Lib.hid hl
  have HX := Lib.hid hx
  have HR := Lib.hid (mx_range xs hx)
  obtain ⟨a, rfl, hc⟩ := hr.int (j := 0) (by omega)
  rw [show a.add 0 = a from by cases a with | mk b o f => cases f <;> rfl] at hc
  have hg : ∀ i, i < n → 0 ≤ xs.getD i 0 ∧ xs.getD i 0 < 256 := fun i hi => hx _ (by
    rw [List.getD_eq_getElem?_getD, List.getElem?_eq_getElem (by rw [hl]; exact hi)]
    exact List.getElem_mem _)
  have HG := Lib.hid hg
  obtain ⟨g0, g1⟩ := hg 0 (by omega)
  have hm1 : mx xs 1 = xs.getD 0 0 := by
    rw [mx, mx]
    split <;> omega
  have HM := Lib.hid hm1
  clear hl hx hg hm1
  generalize hx0 : xs.getD 0 0 = x0 at *
  have HX0 := Lib.hid hx0
  clear hx0
  go_enter Try.func35, Try.ntmps35
  go_wp2
  go_loop [3, 4] (fun v i => ∃ (k : Nat), i = .int .i64 k ∧ v = .int .u8 (mx xs k) ∧ (1 : Int) ≤ k ∧ (k : Int) ≤ n) (fun _ i => ((n : Int) - intOf i).toNat)
  case atStart => exact ⟨1, rfl, by rw [HM.out], by omega, by omega⟩
  case round =>
    obtain ⟨k, rfl, rfl, hk1, hkn⟩ := hrel
    by_cases hlt : (k : Int) < n
    · obtain ⟨_, h1, hc⟩ := hr.int (j := k) (by rw [HL.out]; omega)
      obtain rfl := Option.some.inj h1
      obtain ⟨g0, g1⟩ := HG.out k (by omega)
      obtain ⟨m0, m1⟩ := HR.out k (by rw [HL.out]; omega)
      have HS : Hid (mx xs (k + 1) = if xs.getD k 0 > mx xs k then xs.getD k 0 else mx xs k) := rfl
      generalize xs.getD k 0 = x at *
      generalize mx xs k = m at *
      go_wp2
      all_goals
        go_round
        case rel => exact ⟨k + 1, by go_num, by rw [HS.out], by omega, by omega⟩
        case measure => simp [intOf] <;> omega
    · have hne : k = n := by omega
      subst hne
      go_wp2
      go_ret
      exact ⟨rfl, rfl⟩
end Go.Proofs.Ytnppdhaphnemfaa
