/- The reference's Put: the same bytes as num.Put's. -/
import Derived.Test.YthailfjdkphinaaPut
namespace Go.Proofs.Ythailfjdkphinaa
open Go.RowKit
set_option linter.unusedVariables false
set_option linter.unusedSimpArgs false
theorem wrap_quo {q m : Nat} (h : q ≤ m) (hm : m ≤ 9223372036854775807) : wrap64 ((q : Int) / 128) = (q : Int) / 128 := by
  unfold wrap64
  omega
set_option maxHeartbeats 400000 in
set_option maxRecDepth 20000 in
theorem ref_Put_pos (A : Option Addr) (n c B : Nat) (xs : List Int) (m : Nat) (w : World) (hl : xs.length = n) (hr : Rd w B A (ints .u8 xs)) (hn : n ≤ 140737488351232) (hm : m ≤ 9223372036854775807) :
    Calls Try.prog 17 #[.slice A n c, .int .i64 m] w fun e w' => ∃ v, e = .returned v ∧ w'.ownsRow w.heap.size 5 1 v (n + (dig m).length) (ints .u8 (xs ++ dig m)) ∧ Kp [] w w' := by
  have HL := Lib.hid hl
  have hd := dig_len 8 m (by omega)
  have HM := Lib.hid hm
  clear hl hm
  go_enter Try.func17, Try.ntmps17
  go_wp2_with (at_builtin; refine wpList_append_rd _ rfl (.const (.slice none 0 0)) (.tmp 6) 25 5 rfl w.heap.size (.int .u8 0) 1 1 Try.underlying25 u8_info rfl (by omega) (.slice none 0 0) 0 [] rfl (World.ownsRow_nil _ _ _ _) A n c B (ints .u8 xs) rfl (by rw [ints_length, HL.out, Nat.mul_one]) hr (ints_one _ _) (by omega) (by omega) (Nat.le_refl _) ?_; intro v1 w1 hown1 hg1 hat1)
  have hk1 : Kp [] w w1 := (Kp.refl [] w).own (World.ownsRow_nil w w.heap.size 5 1) (Nat.le_refl _) hg1
  go_loopw [5, 1] (fun v i wr => ∃ (q : Nat) (ys : List Int), i = .int .i64 q ∧ Hid (ys ++ dig q = dig m) ∧ q ≤ m ∧ wr.ownsRow w.heap.size 5 1 v (n + ys.length) (ints .u8 (xs ++ ys)) ∧ Kp [] w wr) (fun _ i _ => (intOf i).toNat)
  case atStart => exact ⟨m, [], rfl, Lib.hid rfl, Nat.le_refl _, by simpa using hown1, hk1⟩
  case round =>
    obtain ⟨q, ys, rfl, hys, hqm, hown, hk⟩ := hrel
    have hyl : ys.length ≤ 9 := by
      have h1 := congrArg List.length hys.out
      rw [List.length_append] at h1
      omega
    by_cases hq : 128 ≤ q
    · have HD := Lib.hid (dig_big (n := q) (by omega))
      have hw : (q : Int) ≤ 9223372036854775807 := by have := HM.out; omega
      have HO : Hid (((q : Int) % 128 + 128) = ((q % 128 + 128 : Nat) : Int)) := by show _ = _; omega
      go_wp2_with (at_builtin; refine wpList_append_one wr rfl (.tmp 13) (.tmp 18) 25 5 rfl w.heap.size (.int .u8 0) 1 Try.underlying25 u8_info rfl _ (n + ys.length) (ints .u8 (xs ++ ys)) _ rfl hown rfl rfl (by omega) (by omega) hk.size ?_; intro v2 w2 hown2 hg2 hat2)
      clear hw
      go_roundw
      case rel =>
        refine ⟨q / 128, ys ++ [((q % 128 + 128 : Nat) : Int)], by go_num, ?_, by omega, ?_, hk.own hown (Nat.le_refl _) hg2⟩
        · show _ = _
          rw [List.append_assoc, List.singleton_append, ← HD.out]
          exact hys.out
        · first | rw [HO.out] at hown2 | skip
          simpa [ints, Nat.add_assoc] using hown2
      case measure =>
        simp [intOf]
        omega
    · have HD := Lib.hid (dig_small (n := q) (by omega))
      go_wp2_with (at_builtin; refine wpList_append_one wr rfl (.tmp 22) (.tmp 25) 25 5 rfl w.heap.size (.int .u8 0) 1 Try.underlying25 u8_info rfl _ (n + ys.length) (ints .u8 (xs ++ ys)) _ rfl hown rfl rfl (by omega) (by omega) hk.size ?_; intro v2 w2 hown2 hg2 hat2)
      go_ret
      refine ⟨_, rfl, ?_, hk.own hown (Nat.le_refl _) hg2⟩
      rw [← hys.out, HD.out]
      simpa [ints, Nat.add_assoc] using hown2

set_option maxHeartbeats 400000 in
theorem ref_Put_neg (A : Option Addr) (n c B : Nat) (xs : List Int) (m : Int) (w : World) (hl : xs.length = n) (hr : Rd w B A (ints .u8 xs)) (hn : n ≤ 140737488351232) (hm : m < 0) :
    Calls Try.prog 17 #[.slice A n c, .int .i64 m] w fun e w' => ∃ v, e = .returned v ∧ w'.ownsRow w.heap.size 5 1 v n (ints .u8 xs) ∧ Kp [] w w' := by
  have HL := Lib.hid hl
  clear hl
  go_enter Try.func17, Try.ntmps17
  go_wp2_with (at_builtin; refine wpList_append_rd _ rfl (.const (.slice none 0 0)) (.tmp 6) 25 5 rfl w.heap.size (.int .u8 0) 1 1 Try.underlying25 u8_info rfl (by omega) (.slice none 0 0) 0 [] rfl (World.ownsRow_nil _ _ _ _) A n c B (ints .u8 xs) rfl (by rw [ints_length, HL.out, Nat.mul_one]) hr (ints_one _ _) (by omega) (by omega) (Nat.le_refl _) ?_; intro v1 w1 hown1 hg1 hat1)
  go_ret
  exact ⟨v1, rfl, by simpa using hown1, (Kp.refl [] w).own (World.ownsRow_nil w w.heap.size 5 1) (Nat.le_refl _) hg1⟩

theorem ref_Put (A : Option Addr) (n c B : Nat) (xs : List Int) (m : Int) (w : World) (hl : xs.length = n) (hr : Rd w B A (ints .u8 xs)) (hn : n ≤ 140737488351232) (hm : I64 m) :
    Calls Try.prog 17 #[.slice A n c, .int .i64 m] w fun e w' => ∃ v, e = .returned v ∧ w'.ownsRow w.heap.size 5 1 v (n + (digs m).length) (ints .u8 (xs ++ digs m)) ∧ Kp [] w w' := by
  by_cases h : m < 0
  · have hd : digs m = [] := if_pos h
    rw [hd, List.append_nil]
    exact ref_Put_neg A n c B xs m w hl hr hn h
  · obtain ⟨q, rfl⟩ := Int.eq_ofNat_of_zero_le (show 0 ≤ m by omega)
    have hd : digs (q : Int) = dig q := by rw [digs, if_neg h, Int.toNat_natCast]
    rw [hd]
    exact ref_Put_pos A n c B xs q w hl hr hn (by have := hm.2; omega)
end Go.Proofs.Ythailfjdkphinaa
