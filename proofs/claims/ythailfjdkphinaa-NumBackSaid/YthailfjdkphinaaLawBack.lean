/- NumBack: a number that was put is read as it was, whatever stands behind it. -/
import Derived.Test.YthailfjdkphinaaAwake01
import Derived.Test.YthailfjdkphinaaDigGet
import Derived.Test.YthailfjdkphinaaLawGets
namespace Go.Proofs.Ythailfjdkphinaa
open Go.RowKit
set_option linter.unusedVariables false
set_option linter.unusedSimpArgs false

set_option maxRecDepth 20000 in
set_option maxHeartbeats 2000000 in
theorem NumBack_walk (w : World) (m : Int) (hm : I64 m) (A : Option Addr) (n c : Nat) (xs : List Int) (h : IntSl w .u8 1 A n c xs) :
    Calls Try.prog 6 #[.int .i64 m, .slice A n c] w fun e w' => e = .returned (.bool true) ∧ Kp [] w w' := by
  have hn : n ≤ 140737488351232 := by have := h.small; omega
  by_cases hin : 0 ≤ m ∧ m ≤ 2147483647
  · obtain ⟨m0, m1⟩ := hin
    have hg := gt_digs m xs m0 m1
    obtain ⟨d1, d5⟩ := digs_short m0 m1
    have H1 := Lib.hid (fun (W : World) => num_Put none 0 0 0 [] m W (fun _ => rfl) (Nat.le_refl _) rfl (Rd.nil _ _ _) (by omega) hm)
    have hu : ∀ x ∈ digs m ++ xs, 0 ≤ x ∧ x < 256 := fun x hx => by
      rcases List.mem_append.1 hx with h1 | h1
      · exact digs_u8 m x h1
      · exact h.u8 x h1
    have H2 := Lib.hid (fun (A : Option Addr) (c B : Nat) (W : World) (hr : Rd W B A (ints .u8 (digs m ++ xs))) => num_Get_of A ((digs m).length + n) c B (digs m ++ xs) m (digs m).length W (by rw [List.length_append, h.len]) hr (by omega) hu hg)
    have HL := Lib.hid h.len
    have hr := h.rd
    generalize digs m = ds at *
    clear h hm hg hu
    go_enter Try.func6, Try.ntmps6
    go_wp2_with (first | (go_at_call 11; refine (awake _).mono ?_; rintro e w1 ⟨rfl, hk1⟩))
    refine (H1.out _).mono ?_
    rintro e w2 ⟨v2, rfl, hown2, hk2⟩
    simp only [Nat.zero_add, List.nil_append] at hown2
    obtain ⟨A2, c2, rfl, hc2, hA2, hr2⟩ := own_read hown2
    clear hA2
    have hk12 := hk1.then hk2
    go_wp2_with (first | (at_builtin; refine wpList_append_rd _ rfl (.const (.slice none 0 0)) (.tmp 20) 25 5 rfl w2.heap.size (.int .u8 0) 1 1 Try.underlying25 u8_info rfl (by omega) (.slice none 0 0) 0 [] rfl (World.ownsRow_nil _ _ _ _) A2 ds.length c2 w2.heap.size (ints .u8 ds) rfl (by rw [ints_length, Nat.mul_one]) hr2 (ints_one _ _) (by omega) (by omega) (Nat.le_refl _) ?_; intro v3 w3 hown3 hg3 hat3; have hk3 := hk12.own (World.ownsRow_nil w2 w2.heap.size 5 1) hk12.size hg3) | (at_builtin; refine wpList_append_rd _ rfl (.tmp 21) (.tmp 22) 25 5 rfl w2.heap.size (.int .u8 0) 1 1 Try.underlying25 u8_info rfl (by omega) v3 (0 + ds.length) ([] ++ ints .u8 ds) rfl hown3 A n c w.heap.size (ints .u8 xs) rfl (by rw [ints_length, HL.out, Nat.mul_one]) (hr.kp0 hk3) (ints_one _ _) (by omega) (by omega) hg3.size ?_; intro v4 w4 hown4 hg4 hat4; have hk4 := hk3.own hown3 hk12.size hg4; simp only [Nat.zero_add, List.nil_append] at hown4; obtain ⟨A4, c4, rfl, hc4, hA4, hr4⟩ := own_read hown4; rw [← ints_append] at hr4))
    refine (H2.out A4 c4 _ w4 hr4).mono ?_
    rintro e w5 ⟨rfl, rfl⟩
    go_wp2
    go_ret
    exact ⟨ret_bool (by simp; omega), hk4⟩
  · have hout : m < 0 ∨ 2147483647 < m := by omega
    clear hin hm h
    rcases hout with ho | ho
    all_goals
      go_enter Try.func6, Try.ntmps6
      go_wp2_with (first | (go_at_call 11; refine (awake _).mono ?_; rintro e w1 ⟨rfl, hk1⟩))
      go_ret
      exact ⟨rfl, hk1⟩
end Go.Proofs.Ythailfjdkphinaa
