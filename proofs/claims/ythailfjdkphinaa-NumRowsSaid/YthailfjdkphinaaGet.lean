/- num.Get: a number read off groups of seven bits. -/
import Derived.Test.YthailfjdkphinaaClone
namespace Go.Proofs.Ythailfjdkphinaa
open Go.RowKit
set_option linter.unusedVariables false
set_option linter.unusedSimpArgs false
/-- What is read from group i on, n being read. -/
def gt : Nat → Int → List Int → Int × Int
  | _, _, [] => (0, 0)
  | i, n, b :: r => if 5 ≤ i then (0, 0) else if b < 128 then (if n + b % 128 * 128 ^ i > 2147483647 then (0, 0) else (n + b % 128 * 128 ^ i, (i : Int) + 1)) else gt (i + 1) (n + b % 128 * 128 ^ i) r

theorem gt_end {i : Nat} {n : Int} {l : List Int} (h : 5 ≤ i ∨ l = []) : gt i n l = (0, 0) := by
  cases l with
  | nil => rfl
  | cons b r => rw [gt, if_pos (by simpa using h)]
theorem gt_last {i : Nat} {n b : Int} {r : List Int} (h : i < 5) (hb : b < 128) (hn : n + b % 128 * 128 ^ i ≤ 2147483647) : gt i n (b :: r) = (n + b % 128 * 128 ^ i, (i : Int) + 1) := by
  rw [gt, if_neg (by omega), if_pos hb, if_neg (by omega)]
theorem gt_great {i : Nat} {n b : Int} {r : List Int} (h : i < 5) (hb : b < 128) (hn : 2147483647 < n + b % 128 * 128 ^ i) : gt i n (b :: r) = (0, 0) := by
  rw [gt, if_neg (by omega), if_pos hb, if_pos hn]
theorem gt_more {i : Nat} {n b : Int} {r : List Int} (h : i < 5) (hb : 128 ≤ b) : gt i n (b :: r) = gt (i + 1) (n + b % 128 * 128 ^ i) r := by
  rw [gt, if_neg (by omega), if_neg (by omega)]

theorem u8_and_127 {b : Int} (h0 : 0 ≤ b) (h1 : b < 256) : bits .and .u8 b 127 = b % 128 := by
  rw [u8_and _ _ h0 h1 (by decide) (by decide)]
  obtain ⟨k, rfl⟩ := Int.eq_ofNat_of_zero_le h0
  rw [Int.toNat_natCast]
  have hk : ∀ j : Fin 256, ((j.val &&& 127 : Nat)) = j.val % 128 := by decide +kernel
  have h2 := hk ⟨k, by omega⟩
  simp at h2
  simp
  omega

theorem i64_or_nat' {a b : Nat} (ha : a < 9223372036854775808) (hb : b < 9223372036854775808) : bits .or .i64 (a : Int) (b : Int) = ((a ||| b : Nat) : Int) := by
  have h1 : ∀ c : Nat, c < 9223372036854775808 → (BitVec.ofInt 64 (c : Int)).toNat = c := fun c hc => by
    rw [BitVec.ofInt_natCast, BitVec.toNat_ofNat]
    exact Nat.mod_eq_of_lt (by omega)
  have h2 : a ||| b < 2 ^ 63 := Nat.or_lt_two_pow (by omega) (by omega)
  show IntKind.i64.wrap ((BitVec.ofInt 64 (a : Int) ||| BitVec.ofInt 64 (b : Int)).toNat : Int) = _
  rw [BitVec.toNat_or, h1 a ha, h1 b hb, IntKind.wrap_i64]
  omega

theorem pow128 (k : Nat) : (2 : Int) ^ (7 * k) = 128 ^ k := by
  rw [Int.pow_mul]
  rfl

theorem i64_or_split {q y : Int} {k : Nat} (hk : k ≤ 4) (hq0 : 0 ≤ q) (hq : q < 128 ^ k) (hy0 : 0 ≤ y) (hy : y < 128) : bits .or .i64 q (wrap64 (wrap64 y * 2 ^ (7 * k))) = q + y * 128 ^ k := by
  obtain ⟨a, rfl⟩ := Int.eq_ofNat_of_zero_le hq0
  obtain ⟨b, rfl⟩ := Int.eq_ofNat_of_zero_le hy0
  have hw : wrap64 (b : Int) = b := by unfold wrap64; omega
  rw [hw, pow128]
  have hp : (128 : Int) ^ k ≤ 128 ^ 4 := by
    have : (128 : Nat) ^ k ≤ 128 ^ 4 := Nat.pow_le_pow_right (by omega) hk
    exact_mod_cast this
  have hpos : (0 : Int) < 128 ^ k := Int.pow_pos (by omega)
  have hb1 : (b : Int) * 128 ^ k ≤ 127 * 128 ^ 4 := Int.mul_le_mul (by omega) hp (by omega) (by omega)
  have hb2 : 0 ≤ (b : Int) * 128 ^ k := Int.mul_nonneg (by omega) (by omega)
  have hw2 : wrap64 ((b : Int) * 128 ^ k) = b * 128 ^ k := by unfold wrap64; omega
  rw [hw2]
  have haN : a < 2 ^ (7 * k) := by
    have h2 : ((2 ^ (7 * k) : Nat) : Int) = 128 ^ k := by
      rw [← pow128]
      exact_mod_cast rfl
    omega
  have hor : a ||| b * 2 ^ (7 * k) = a + b * 2 ^ (7 * k) := by
    rw [Nat.or_comm, ← Nat.shiftLeft_eq, ← Nat.shiftLeft_add_eq_or_of_lt haN, Nat.add_comm]
  have hmN : b * 2 ^ (7 * k) < 9223372036854775808 := by
    have h2 : ((b * 2 ^ (7 * k) : Nat) : Int) = b * 128 ^ k := by
      rw [← pow128]
      exact_mod_cast rfl
    omega
  have hm2 : (b : Int) * 128 ^ k = ((b * 2 ^ (7 * k) : Nat) : Int) := by
    rw [← pow128]
    exact_mod_cast rfl
  rw [hm2, i64_or_nat' (by omega) hmN, hor]
  exact_mod_cast rfl
set_option maxRecDepth 20000 in
set_option maxHeartbeats 1000000 in
theorem num_Get (A : Option Addr) (n c B : Nat) (xs : List Int) (w : World) (hl : xs.length = n) (hr : Rd w B A (ints .u8 xs)) (hn : n ≤ 140737488355328) (hx : ∀ x ∈ xs, 0 ≤ x ∧ x < 256) :
    Calls Try.prog 18 #[.slice A n c] w fun e w' => e = .returned (.tuple #[.int .i64 (gt 0 0 xs).1, .int .i64 (gt 0 0 xs).2]) ∧ w = w' := by
  have HL := Lib.hid hl
  have HX := Lib.hid hx
  clear hl hx
  rcases Nat.lt_or_ge n 5 with h5 | h5
  all_goals
    go_enter Try.func18, Try.ntmps18
    go_wp2
    go_loop [4, 9] (fun v i => ∃ (k : Nat) (q : Int), i = .int .i64 k ∧ v = .int .i64 q ∧ 0 ≤ q ∧ k ≤ 5 ∧ k ≤ n ∧ Hid (q < 128 ^ k) ∧ Hid (gt k q (xs.drop k) = gt 0 0 xs)) (fun _ i => 5 - (intOf i).toNat)
    case atStart => exact ⟨0, 0, rfl, rfl, by omega, by omega, by omega, (by show _ < _; simp), Lib.hid rfl⟩
    case round =>
      obtain ⟨k, q, rfl, rfl, hq0, hk5, hkn, hq, hg⟩ := hrel
      by_cases hlt : k < n ∧ k < 5
      · obtain ⟨h1, h2⟩ := hlt
        obtain ⟨a, rfl, hc⟩ := hr.int (j := k) (by rw [HL.out]; exact h1)
        have hbm : 0 ≤ xs.getD k 0 ∧ xs.getD k 0 < 256 := HX.out _ (by
          rw [List.getD_eq_getElem?_getD, List.getElem?_eq_getElem (by rw [HL.out]; exact h1)]
          exact List.getElem_mem _)
        have hdr : xs.drop k = xs.getD k 0 :: xs.drop (k + 1) := by
          rw [List.drop_eq_getElem_cons (by rw [HL.out]; exact h1), List.getD_eq_getElem?_getD, List.getElem?_eq_getElem (by rw [HL.out]; exact h1)]
          rfl
        have HD := Lib.hid hdr
        clear hdr
        generalize xs.getD k 0 = b at *
        have hand := u8_and_127 hbm.1 hbm.2
        have hv : bits .or .i64 q (wrap64 (wrap64 (bits .and .u8 b 127) * 2 ^ (7 * k))) = q + b % 128 * 128 ^ k := by
          rw [hand]
          exact i64_or_split (by omega) hq0 hq.out (by omega) (by omega)
        have hpos : (0 : Int) < 128 ^ k := Int.pow_pos (by omega)
        have hnew : 0 ≤ q + b % 128 * 128 ^ k ∧ q + b % 128 * 128 ^ k < 128 ^ (k + 1) := by
          have h3 := hq.out
          have h4 : 0 ≤ b % 128 * 128 ^ k := Int.mul_nonneg (by omega) (by omega)
          have h5 : b % 128 * 128 ^ k ≤ 127 * 128 ^ k := Int.mul_le_mul_of_nonneg_right (by omega) (by omega)
          rw [Int.pow_succ]
          omega
        have HV := Lib.hid hv
        have HN := Lib.hid hnew
        have HP := Lib.hid hpos
        clear hv hand hnew hpos
        by_cases hb : b < 128
        · by_cases hbig : 2147483647 < bits .or .i64 q (wrap64 (wrap64 (bits .and .u8 b 127) * 2 ^ (7 * k)))
          · have hbd := decide_eq_true hbig
            have HB := Lib.hid hbig
            clear hbig
            go_wp2
            go_ret2
            refine ⟨?_, rfl⟩
            have hbig := HB.out
            rw [HV.out] at hbig
            rw [← hg.out, HD.out, gt_great h2 hb hbig]
            rfl
          · have hbd := decide_eq_false hbig
            have HB := Lib.hid hbig
            clear hbig
            go_wp2
            go_ret2
            refine ⟨?_, rfl⟩
            have hbig := HB.out
            rw [HV.out] at hbig
            rw [← hg.out, HD.out, gt_last h2 hb (by omega), ← HV.out]
            rfl
        · go_wp2
          go_round
          case rel =>
            refine ⟨k + 1, _, by go_num, rfl, ?_, by omega, by omega, ?_, ?_⟩
            · rw [HV.out]
              exact HN.out.1
            · show _ < _
              rw [HV.out]
              exact HN.out.2
            · show _ = _
              rw [HV.out, ← gt_more h2 (by omega), ← HD.out]
              exact hg.out
          case measure =>
            simp [intOf]
            omega
      · have hend : gt k q (xs.drop k) = (0, 0) := gt_end (by
          by_cases h3 : 5 ≤ k
          · exact .inl h3
          · exact .inr (List.drop_eq_nil_of_le (by rw [HL.out]; omega)))
        have HE := Lib.hid hend
        clear hend
        first
          | (have h3 : n ≤ k := by omega
             go_wp2
             go_ret2
             exact ⟨by rw [← hg.out, HE.out]; rfl, rfl⟩)
          | (have h3 : 5 ≤ k := by omega
             go_wp2
             go_ret2
             exact ⟨by rw [← hg.out, HE.out]; rfl, rfl⟩)

theorem num_Get_of (A : Option Addr) (n c B : Nat) (xs : List Int) (r1 r2 : Int) (w : World) (hl : xs.length = n) (hr : Rd w B A (ints .u8 xs)) (hn : n ≤ 140737488355328) (hx : ∀ x ∈ xs, 0 ≤ x ∧ x < 256) (hg : gt 0 0 xs = (r1, r2)) :
    Calls Try.prog 18 #[.slice A n c] w fun e w' => e = .returned (.tuple #[.int .i64 r1, .int .i64 r2]) ∧ w = w' := by
  have h := num_Get A n c B xs w hl hr hn hx
  rw [hg] at h
  exact h
end Go.Proofs.Ythailfjdkphinaa
