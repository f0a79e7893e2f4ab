/- The reference's Get: it reads what num.Get reads. -/
import Derived.Test.YthailfjdkphinaaGet
namespace Go.Proofs.Ythailfjdkphinaa
open Go.RowKit
set_option linter.unusedVariables false
set_option linter.unusedSimpArgs false
set_option maxRecDepth 20000 in
set_option maxHeartbeats 1000000 in
theorem ref_Get (A : Option Addr) (n c B : Nat) (xs : List Int) (w : World) (hl : xs.length = n) (hr : Rd w B A (ints .u8 xs)) (hn : n ≤ 140737488355328) (hx : ∀ x ∈ xs, 0 ≤ x ∧ x < 256) :
    Calls Try.prog 19 #[.slice A n c] w fun e w' => e = .returned (.tuple #[.int .i64 (gt 0 0 xs).1, .int .i64 (gt 0 0 xs).2]) ∧ w = w' := by
  have HL := Lib.hid hl
  have HX := Lib.hid hx
  clear hl hx
  go_enter Try.func19, Try.ntmps19
  go_wp2
  go_loop [4, 5, 6] (fun v f i => ∃ (k : Nat) (q p : Int), i = .int .i64 k ∧ v = .int .i64 q ∧ f = .int .i64 p ∧ 0 ≤ q ∧ k ≤ 5 ∧ k ≤ n ∧ Hid (p = 128 ^ k) ∧ Hid (q < 128 ^ k) ∧ Hid (gt k q (xs.drop k) = gt 0 0 xs)) (fun _ _ i => 5 - (intOf i).toNat)
  case atStart => exact ⟨0, 0, 1, rfl, rfl, rfl, by omega, by omega, by omega, Lib.hid rfl, (by show _ < _; simp), Lib.hid rfl⟩
  case round =>
    obtain ⟨k, q, p, rfl, rfl, rfl, hq0, hk5, hkn, hp, hq, hg⟩ := hrel
    by_cases hlt : k < n ∧ k < 5
    · obtain ⟨h1, h2⟩ := hlt
      obtain ⟨a, rfl, hc⟩ := hr.int (j := k) (by rw [HL.out]; exact h1)
      have hbm : 0 ≤ xs.getD k 0 ∧ xs.getD k 0 < 256 := HX.out _ (by
        rw [List.getD_eq_getElem?_getD, List.getElem?_eq_getElem (by rw [HL.out]; exact h1)]
        exact List.getElem_mem _)
      have hdr : xs.drop k = xs.getD k 0 :: xs.drop (k + 1) := by
        rw [List.drop_eq_getElem_cons (by rw [HL.out]; exact h1), List.getD_eq_getElem?_getD, List.getElem?_eq_getElem (by rw [HL.out]; exact h1)]
        rfl
      have HD := Lib.hid hdr
      clear hdr
      generalize xs.getD k 0 = b at *
      have hp5 : (128 : Int) ^ k ≤ 128 ^ 4 := by
        have : (128 : Nat) ^ k ≤ 128 ^ 4 := Nat.pow_le_pow_right (by omega) (by omega)
        exact_mod_cast this
      have hpos : (0 : Int) < 128 ^ k := Int.pow_pos (by omega)
      have hp0 : 0 ≤ p ∧ p ≤ 268435456 := by
        have := hp.out
        omega
      have hm0 : 0 ≤ b % 128 * p := Int.mul_nonneg (by omega) (by omega)
      have hm1 : b % 128 * p ≤ 127 * p := Int.mul_le_mul_of_nonneg_right (by omega) (by omega)
      have hq1 : q ≤ 268435456 := by
        have := hq.out
        omega
      have HNEW : Hid (q + b % 128 * p < 128 ^ (k + 1)) := by
        show _ < _
        have h3 := hq.out
        have h4 := hp.out
        rw [Int.pow_succ]
        omega
      clear hp5 hpos
      by_cases hb : b < 128
      · by_cases hbig : 2147483647 < q + b % 128 * p
        · have HB := Lib.hid hbig
          go_wp2
          go_ret2
          refine ⟨?_, rfl⟩
          have hbig := HB.out
          rw [hp.out] at hbig
          rw [← hg.out, HD.out, gt_great h2 hb hbig]
          rfl
        · have HB := Lib.hid hbig
          go_wp2
          go_ret2
          refine ⟨?_, rfl⟩
          have hbig := HB.out
          have hpp := hp.out
          subst hpp
          rw [← hg.out, HD.out, gt_last h2 hb (by omega)]
          rfl
      · go_wp2
        go_round
        case rel =>
          refine ⟨k + 1, _, _, by go_num, rfl, rfl, by omega, by omega, by omega, ?_, HNEW, ?_⟩
          · show _ = _
            rw [hp.out, Int.pow_succ]
          · show _ = _
            rw [← hg.out, HD.out, gt_more h2 (by omega), hp.out]
        case measure =>
          simp [intOf]
          omega
    · have hend : gt k q (xs.drop k) = (0, 0) := gt_end (by
        by_cases h3 : 5 ≤ k
        · exact .inl h3
        · exact .inr (List.drop_eq_nil_of_le (by rw [HL.out]; omega)))
      have HE := Lib.hid hend
      clear hend
      by_cases h3 : k < 5
      · have h4 : n ≤ k := by omega
        go_wp2
        go_ret2
        exact ⟨by rw [← hg.out, HE.out]; rfl, rfl⟩
      · go_wp2
        go_ret2
        exact ⟨by rw [← hg.out, HE.out]; rfl, rfl⟩
end Go.Proofs.Ythailfjdkphinaa
