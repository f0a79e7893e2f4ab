/- num.Put: a number in groups of seven bits behind a copy of the bytes. -/
import Derived.Test.YthailfjdkphinaaClone
namespace Go.Proofs.Ythailfjdkphinaa
open Go.RowKit
set_option linter.unusedVariables false
set_option linter.unusedSimpArgs false
def dig (n : Nat) : List Int := if h : n < 128 then [(n : Int)] else ((n % 128 + 128 : Nat) : Int) :: dig (n / 128)
termination_by n
decreasing_by omega

theorem dig_small {n : Nat} (h : n < 128) : dig n = [(n : Int)] := by rw [dig]; simp [h]
theorem dig_big {n : Nat} (h : ¬ n < 128) : dig n = ((n % 128 + 128 : Nat) : Int) :: dig (n / 128) := by rw [dig]; simp [h]
theorem dig_len (k : Nat) : ∀ n, n < 128 ^ (k + 1) → (dig n).length ≤ k + 1 := by
  induction k with
  | zero => intro n h; rw [dig_small (by simpa using h)]; simp
  | succ k ih =>
    intro n h
    by_cases hs : n < 128
    · rw [dig_small hs]; simp
    · rw [dig_big hs, List.length_cons]
      have := ih (n / 128) (by rw [Nat.pow_succ] at h; omega)
      omega

theorem u8_or_128 (n : Int) : bits .or .u8 (n % 256) 128 = n % 256 % 128 + 128 := by
  have h0 := Int.emod_nonneg n (show (256 : Int) ≠ 0 by decide)
  have h1 := Int.emod_lt_of_pos n (show (0 : Int) < 256 by decide)
  by_cases h : n % 256 < 128
  · rw [u8_or128_right _ h0 h]
    omega
  · rw [u8_or _ _ h0 h1 (by decide) (by decide)]
    generalize n % 256 = m at *
    obtain ⟨k, rfl⟩ := Int.eq_ofNat_of_zero_le h0
    rw [Int.toNat_natCast]
    have hk : ∀ j : Fin 256, 128 ≤ j.val → ((j.val ||| 128 : Nat)) = j.val % 128 + 128 := by decide +kernel
    have h2 := hk ⟨k, by omega⟩ (by simp; omega)
    simp at h2
    simp
    omega

set_option maxHeartbeats 400000 in
set_option maxRecDepth 20000 in
theorem num_Put_pos (A : Option Addr) (n c B : Nat) (xs : List Int) (m : Nat) (w : World) (hA : A = none → c = 0) (hc : n ≤ c) (hl : xs.length = n) (hr : Rd w B A (ints .u8 xs)) (hn : n ≤ 140737488351232) (hm : m ≤ 9223372036854775807) :
    Calls Try.prog 16 #[.slice A n c, .int .i64 m] w fun e w' => ∃ v, e = .returned v ∧ w'.ownsRow w.heap.size 5 1 v (n + (dig m).length) (ints .u8 (xs ++ dig m)) ∧ Kp [] w w' := by
  have HC := Lib.hid (clone_bytes A n c B (ints .u8 xs) w hA hc (by rw [ints_length]; exact hl) hr (ints_one _ _) hn)
  have HL := Lib.hid hl
  have hd := dig_len 8 m (by omega)
  clear hl hA hr hm
  go_enter Try.func16, Try.ntmps16
  go_wp2_with (go_at_call 24; refine HC.out.mono ?_; rintro e w1 ⟨v1, rfl, hown1, hk1⟩)
  go_loopw [5, 1] (fun v i wr => ∃ (q : Nat) (ys : List Int), i = .int .i64 q ∧ Hid (ys ++ dig q = dig m) ∧ q ≤ m ∧ wr.ownsRow w.heap.size 5 1 v (n + ys.length) (ints .u8 (xs ++ ys)) ∧ Kp [] w wr) (fun _ i _ => (intOf i).toNat)
  case atStart => exact ⟨m, [], rfl, Lib.hid rfl, Nat.le_refl _, by simpa using hown1, hk1⟩
  case round =>
    obtain ⟨q, ys, rfl, hys, hqm, hown, hk⟩ := hrel
    have hyl : ys.length ≤ 9 := by
      have h1 := congrArg List.length hys.out
      rw [List.length_append] at h1
      omega
    by_cases hq : 128 ≤ q
    · have HD := Lib.hid (dig_big (n := q) (by omega))
      have ho128 : bits .or .u8 ((q : Int) % 256) 128 = ((q % 128 + 128 : Nat) : Int) := by
        rw [u8_or_128, Int.emod_emod_of_dvd _ (by decide)]
        omega
      have HO := Lib.hid ho128
      clear ho128
      go_wp2_with (at_builtin; refine wpList_append_one wr rfl (.tmp 15) (.tmp 19) 25 5 rfl w.heap.size (.int .u8 0) 1 Try.underlying25 u8_info rfl _ (n + ys.length) (ints .u8 (xs ++ ys)) _ rfl hown rfl rfl (by omega) (by omega) hk.size ?_; intro v2 w2 hown2 hg2 hat2)
      go_roundw
      case rel =>
        refine ⟨q / 128, ys ++ [((q % 128 + 128 : Nat) : Int)], by go_num, ?_, by omega, ?_, hk.own hown (Nat.le_refl _) hg2⟩
        · show _ = _
          rw [List.append_assoc, List.singleton_append, ← HD.out]
          exact hys.out
        · rw [HO.out] at hown2
          simpa [ints, Nat.add_assoc] using hown2
      case measure =>
        simp [intOf]
        omega
    · have HD := Lib.hid (dig_small (n := q) (by omega))
      go_wp2_with (at_builtin; refine wpList_append_one wr rfl (.tmp 21) (.tmp 24) 25 5 rfl w.heap.size (.int .u8 0) 1 Try.underlying25 u8_info rfl _ (n + ys.length) (ints .u8 (xs ++ ys)) _ rfl hown rfl rfl (by omega) (by omega) hk.size ?_; intro v2 w2 hown2 hg2 hat2)
      go_ret
      refine ⟨_, rfl, ?_, hk.own hown (Nat.le_refl _) hg2⟩
      rw [← hys.out, HD.out]
      simpa [ints, Nat.add_assoc] using hown2
set_option maxHeartbeats 400000 in
theorem num_Put_neg (A : Option Addr) (n c B : Nat) (xs : List Int) (m : Int) (w : World) (hA : A = none → c = 0) (hc : n ≤ c) (hl : xs.length = n) (hr : Rd w B A (ints .u8 xs)) (hn : n ≤ 140737488351232) (hm : m < 0) :
    Calls Try.prog 16 #[.slice A n c, .int .i64 m] w fun e w' => ∃ v, e = .returned v ∧ w'.ownsRow w.heap.size 5 1 v n (ints .u8 xs) ∧ Kp [] w w' := by
  have HC := Lib.hid (clone_bytes A n c B (ints .u8 xs) w hA hc (by rw [ints_length]; exact hl) hr (ints_one _ _) hn)
  clear hl hA hr
  go_enter Try.func16, Try.ntmps16
  go_wp2_with (go_at_call 24; refine HC.out.mono ?_; rintro e w1 ⟨v1, rfl, hown1, hk1⟩)
  go_ret
  exact ⟨v1, rfl, hown1, hk1⟩

/-- What is put behind the bytes. -/
def digs (m : Int) : List Int := if m < 0 then [] else dig m.toNat
theorem digs_len {m : Int} (h : I64 m) : (digs m).length ≤ 9 := by
  unfold digs
  split
  · simp
  · exact dig_len 8 _ (by have := h.2; omega)

theorem num_Put (A : Option Addr) (n c B : Nat) (xs : List Int) (m : Int) (w : World) (hA : A = none → c = 0) (hc : n ≤ c) (hl : xs.length = n) (hr : Rd w B A (ints .u8 xs)) (hn : n ≤ 140737488351232) (hm : I64 m) :
    Calls Try.prog 16 #[.slice A n c, .int .i64 m] w fun e w' => ∃ v, e = .returned v ∧ w'.ownsRow w.heap.size 5 1 v (n + (digs m).length) (ints .u8 (xs ++ digs m)) ∧ Kp [] w w' := by
  by_cases h : m < 0
  · have hd : digs m = [] := if_pos h
    rw [hd, List.append_nil]
    exact num_Put_neg A n c B xs m w hA hc hl hr hn h
  · obtain ⟨q, rfl⟩ := Int.eq_ofNat_of_zero_le (show 0 ≤ m by omega)
    have hd : digs (q : Int) = dig q := by rw [digs, if_neg h, Int.toNat_natCast]
    rw [hd]
    exact num_Put_pos A n c B xs q w hA hc hl hr hn (by have := hm.2; omega)
end Go.Proofs.Ythailfjdkphinaa
