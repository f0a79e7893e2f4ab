/- The chapter's examples stand. -/
import Derived.Test.YthailfjdkphinaaNumDiv
import Derived.Test.YthailfjdkphinaaPut
import Derived.Test.YthailfjdkphinaaGet
import Derived.Test.YthailfjdkphinaaSum
namespace Go.Proofs.Ythailfjdkphinaa
open Go.RowKit
set_option linter.unusedVariables false
set_option linter.unusedSimpArgs false
theorem digs300 : digs 300 = [172, 2] := by
  rw [digs, if_neg (by omega)]
  show dig 300 = _
  rw [dig_big (by omega), dig_small (by omega)]
  rfl
theorem gt300 : gt 0 0 [172, 2] = (300, 2) := by decide +kernel
theorem gt128 : gt 0 0 [128] = (0, 0) := by decide +kernel
theorem str300 : (strOfNums [172, 2]).toList = [172, 2] := by decide +kernel
theorem sum_a : (sumb 2166136261 [97] : Int) = 3826002220 := by decide +kernel

set_option maxRecDepth 20000 in
set_option maxHeartbeats 1000000 in
theorem awake (w : World) : Calls Try.prog 11 #[] w fun e w' => e = .returned (.bool true) ∧ Kp [] w w' := by
  have d1 : fdiv (-1) 16 = -1 := by decide
  have d2 : fmod (-1) 16 = 15 := by decide
  have d3 : fdiv (-16) 16 = -1 := by decide
  have d4 : fdiv 5 0 = 0 := by decide
  go_enter Try.func11, Try.ntmps11
  go_wp2_with (go_at_call 16; refine (num_Put none 0 0 0 [] 300 _ (fun _ => rfl) (Nat.le_refl _) rfl (Rd.nil _ _ _) (by omega) ⟨by omega, by omega⟩).mono ?_; rintro e w1 ⟨v1, rfl, hown1, hk1⟩; rw [digs300] at hown1; obtain ⟨A, c, rfl, hc, hA, hr⟩ := own_read hown1; clear hown1)
  refine (num_Get_of A _ c _ [172, 2] 300 2 _ rfl hr (by decide) (by decide) gt300).mono ?_
  rintro e w2 ⟨rfl, rfl⟩
  go_wp2_with fail
  refine (num_Get_of _ 1 1 _ [128] 0 0 _ rfl (rd_one w1 (.int .u8 128) 5) (by decide) (by decide) gt128).mono ?_
  rintro e w2 ⟨rfl, rfl⟩
  have hs := fun W : World => fun h : Rd W w1.heap.size A (ints .u8 [172, 2]) => run_string_rd (P := Try.prog) W 25 9 5 Try.underlying25 Try.underlying5 Try.underlying9 A 2 c _ _ rfl h
  have hs1 := hs (w1.alloc (.cells #[.int .u8 128] 5)) (hr.kp0 ((Kp.refl [] w1).alloc _))
  clear hs
  have hstr := str300
  go_wp2_with (first | (go_at_call 12; refine (num_Div _ _ _ ⟨by omega, by omega⟩).mono ?_; rintro e w3 ⟨rfl, rfl⟩; simp only [d1, d3, d4]) | (go_at_call 13; refine (num_Mod _ _ _ ⟨by omega, by omega⟩).mono ?_; rintro e w3 ⟨rfl, rfl⟩; simp only [d2]))
  refine (num_Sum_of none 0 0 0 [] 2166136261 _ rfl (Rd.nil _ _ _) (by decide) (by decide) rfl).mono ?_
  rintro e w3 ⟨rfl, rfl⟩
  have hcv := Joins.run_convert_bytes_const_at (P := Try.prog) (w1.alloc (.cells #[.int .u8 128] 5)) 25 5 #[.int .u8 97] 1 1 (w1.heap.size + 1) (by simp) Try.underlying25 Try.underlying5
  go_wp2_with fail
  refine (num_Sum_of _ 1 1 _ [97] 3826002220 _ rfl (rd_mark_at (w1.alloc (.cells #[.int .u8 128] 5)) #[.int .u8 97] 5 (1, 2) (w1.heap.size + 1) (by simp)) (by decide) (by decide) sum_a).mono ?_
  rintro e w3 ⟨rfl, rfl⟩
  go_wp2
  go_ret
  exact ⟨rfl, (hk1.alloc _).alloc _⟩
end Go.Proofs.Ythailfjdkphinaa
