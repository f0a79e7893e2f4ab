/- What was put is read. -/
import Derived.Test.YthailfjdkphinaaPut
import Derived.Test.YthailfjdkphinaaGet
namespace Go.Proofs.Ythailfjdkphinaa
open Go.RowKit
set_option linter.unusedVariables false
set_option linter.unusedSimpArgs false

theorem gt_dig (t : List Int) : ∀ (n i : Nat) (acc : Int), i < 5 → n < 128 ^ (5 - i) → 0 ≤ acc → acc + n * 128 ^ i ≤ 2147483647 → gt i acc (dig n ++ t) = (acc + n * 128 ^ i, ((i + (dig n).length : Nat) : Int)) := by
  intro n
  induction n using Nat.strongRecOn with
  | _ n ih =>
    intro i acc hi hn h0 hs
    by_cases h : n < 128
    · rw [dig_small h, List.singleton_append]
      have hm : (n : Int) % 128 = n := by omega
      rw [gt_last hi (by omega) (by rw [hm]; exact hs), hm]
      simp
    · have hb : ((n % 128 + 128 : Nat) : Int) % 128 = ((n % 128 : Nat) : Int) := by omega
      have hp : (128 : Int) ^ (i + 1) = 128 * 128 ^ i := by rw [Int.pow_succ, Int.mul_comm]
      have hval : acc + ((n % 128 : Nat) : Int) * 128 ^ i + ((n / 128 : Nat) : Int) * 128 ^ (i + 1) = acc + n * 128 ^ i := by
        rw [hp, ← Int.mul_assoc, Int.add_assoc, ← Int.add_mul]
        congr 2
        omega
      have h5 : i + 1 < 5 := by
        rcases Nat.lt_or_ge (i + 1) 5 with h5 | h5
        · exact h5
        · have : 5 - i = 1 := by omega
          rw [this] at hn
          omega
      have hpos : (0 : Int) < 128 ^ i := Int.pow_pos (by omega)
      rw [dig_big h, List.cons_append, gt_more hi (by omega), hb, ih (n / 128) (by omega) (i + 1) _ h5 ?_ ?_ (by rw [hval]; exact hs), hval]
      · simp
        omega
      · have : 5 - i = (5 - (i + 1)) + 1 := by omega
        rw [this, Nat.pow_succ] at hn
        omega
      · exact Int.add_nonneg h0 (Int.mul_nonneg (by omega) (by omega))

theorem gt_digs (m : Int) (t : List Int) (h0 : 0 ≤ m) (h1 : m ≤ 2147483647) : gt 0 0 (digs m ++ t) = (m, ((digs m).length : Int)) := by
  obtain ⟨n, rfl⟩ := Int.eq_ofNat_of_zero_le h0
  have hd : digs (n : Int) = dig n := by rw [digs, if_neg (by omega), Int.toNat_natCast]
  rw [hd, gt_dig t n 0 0 (by omega) (by simp; omega) (by omega) (by simp; omega)]
  simp

theorem digs_short {m : Int} (h0 : 0 ≤ m) (h1 : m ≤ 2147483647) : 1 ≤ (digs m).length ∧ (digs m).length ≤ 5 := by
  obtain ⟨n, rfl⟩ := Int.eq_ofNat_of_zero_le h0
  have hd : digs (n : Int) = dig n := by rw [digs, if_neg (by omega), Int.toNat_natCast]
  rw [hd]
  refine ⟨?_, dig_len 4 n (by omega)⟩
  by_cases h : n < 128
  · rw [dig_small h]; simp
  · rw [dig_big h]; simp

theorem dig_u8 (n : Nat) : ∀ x ∈ dig n, 0 ≤ x ∧ x < 256 := by
  induction n using Nat.strongRecOn with
  | _ n ih =>
    by_cases h : n < 128
    · rw [dig_small h]
      intro x hx
      simp at hx
      omega
    · rw [dig_big h]
      intro x hx
      rcases List.mem_cons.1 hx with h1 | h1
      · omega
      · exact ih (n / 128) (by omega) x h1
theorem digs_u8 (m : Int) : ∀ x ∈ digs m, 0 ≤ x ∧ x < 256 := by
  unfold digs
  split
  · simp
  · exact dig_u8 _
end Go.Proofs.Ythailfjdkphinaa
