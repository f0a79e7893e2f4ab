/- The chapter's examples stand. -/
import Derived.Test.YtnppdhaphnemfaaChkFull
import Derived.Test.YtnppdhaphnemfaaChkFrom
import Derived.Test.YtnppdhaphnemfaaChkSet
import Derived.Test.YtnppdhaphnemfaaChkGet
import Derived.Test.YtnppdhaphnemfaaChkTop
import Derived.Test.YtnppdhaphnemfaaChkCounts
namespace Go.Proofs.Ytnppdhaphnemfaa
open Go.RowKit
set_option linter.unusedVariables false
set_option linter.unusedSimpArgs false

/-- One cell of a kind in air. -/
def oneIn (i : Nat) (k : Int) : Nat → Int := fun j => if j = i then k else 0
theorem cnt_oneIn_air (i : Nat) (k : Int) (hk : k ≠ 0) : ∀ n, cnt (oneIn i k) 0 n = if n ≤ i then (n : Int) else (n : Int) - 1
  | 0 => by simp [cnt]
  | n + 1 => by
    rw [cnt, cnt_oneIn_air i k hk n]
    unfold oneIn
    by_cases h : n = i
    · subst h
      rw [if_pos (Nat.le_refl _), if_pos rfl, if_neg hk, if_neg (by omega)]
      omega
    · rw [if_neg h, if_pos rfl]
      by_cases h2 : n ≤ i
      · rw [if_pos h2, if_pos (by omega)]
        omega
      · rw [if_neg h2, if_neg (by omega)]
        omega
theorem cnt_oneIn (i : Nat) (k : Int) (hk : k ≠ 0) : ∀ n, cnt (oneIn i k) k n = if n ≤ i then 0 else 1
  | 0 => by simp [cnt]
  | n + 1 => by
    rw [cnt, cnt_oneIn i k hk n]
    unfold oneIn
    by_cases h : n = i
    · subst h
      rw [if_pos (Nat.le_refl _), if_pos rfl, if_pos rfl, if_neg (by omega)]
      omega
    · rw [if_neg h, if_neg (show ¬ (0 : Int) = k from fun e => hk e.symm)]
      by_cases h2 : n ≤ i
      · rw [if_pos h2, if_pos (by omega)]
        omega
      · rw [if_neg h2, if_neg (by omega)]
        omega
theorem set_one : setS (fun _ => 0) 256 3 = oneIn 256 3 := by
  have h : okSet 256 3 = true := by decide
  rw [setS, h, if_pos rfl]
  rfl
theorem one_air : cnt (oneIn 256 3) 0 32768 = 32767 := by rw [cnt_oneIn_air 256 3 (by decide), if_neg (by omega)]; rfl
theorem one_three : cnt (oneIn 256 3) 3 32768 = 1 := by rw [cnt_oneIn 256 3 (by decide), if_neg (by omega)]
theorem one_get : getS (oneIn 256 3) 256 = 3 := by kernel_rfl
theorem one_top : topS (oneIn 256 3) 0 0 = 1 := by kernel_rfl
theorem fill_top : topS (fillS (oneIn 256 3) 0 1 1) 5 5 = 1 := by kernel_rfl
theorem fill_ok : okFill 0 1 1 = true := by decide
theorem set_ok : okSet 256 3 = true := by decide
theorem may_one : mayS [1] = 3 := by decide

set_option maxRecDepth 20000 in
set_option maxHeartbeats 2000000 in
theorem awake (w : World) : Calls Try.prog 11 #[] w fun e w' => e = .returned (.bool true) ∧ Kp [] w w' := by
  have HK0 := Lib.hid (Kp.refl [] w)
  go_enter Try.func11, Try.ntmps11
  go_wp2_with fail
  refine (chunk_Full_no 17 _ (by omega)).mono ?_
  rintro e w1 ⟨rfl, k1⟩
  go_wp2_with fail
  have hm1 := chunk_From_no (some ⟨w1.heap.size, 0, none⟩) 1 1 _ [1] (w1.alloc (.cells #[.int .u8 1] 5)) rfl (rd_one w1 (.int .u8 1) 5) (by omega) (by decide) (by rw [may_one]; omega)
  rw [may_one] at hm1
  refine hm1.mono ?_
  clear hm1
  rintro e w2 ⟨rfl, rfl⟩
  have k2 := k1.alloc (.cells #[.int .u8 1] 5)
  generalize w1.alloc (.cells #[.int .u8 1] 5) = w2 at *
  go_wp2_with fail
  refine (chunk_New _).mono ?_
  rintro e w3 ⟨b, rfl, hb, hc3, k3⟩
  have K3 := Lib.hid (k2.then k3)
  have HB := Lib.hid hb
  have hbs := k2.size
  have HC3 := Lib.hid hc3
  clear hc3 k3 k2 k1
  go_wp2_with fail
  refine (chunk_Set b _ 256 3 _ HC3.out).mono ?_
  rintro e w4 ⟨rfl, hc4, k4⟩
  rw [set_one] at hc4
  simp only [set_ok]
  have K4 := Lib.hid (K3.out.trans k4 (fun x hx _ => by simp at hx; omega))
  have HC4 := Lib.hid hc4
  clear hc4 k4
  go_wp2_with fail
  refine (chunk_Counts b _ _ HC4.out).mono ?_
  rintro e w5 ⟨v5, rfl, hown5, k5⟩
  have K5 := Lib.hid (K4.out.then k5)
  have hc5 := HC4.out.kp0 k5
  have hlt5 := HC4.out.lt
  obtain ⟨g, cap, rfl, hgb, hgl⟩ := hown5.form (by omega)
  have q0 := hown5.cellAt 0 (by omega)
  have q3 := hown5.cellAt 3 (by omega)
  rw [ints_get _ _ _ (by rw [cntL_length]; omega), cntL_get _ _ _ (by omega)] at q0 q3
  have q0' : w5.cell? ⟨g, 0, none⟩ = some (.int .i64 32767) := by rw [q0]; exact congrArg (fun x => some (Value.int .i64 x)) one_air
  have q3' : w5.cell? ⟨g, 3, none⟩ = some (.int .i64 1) := by rw [q3]; exact congrArg (fun x => some (Value.int .i64 x)) one_three
  have HQ0 := Lib.hid q0'
  have HQ3 := Lib.hid q3'
  have HC5 := Lib.hid hc5
  clear q0 q3 q0' q3' hown5 hc5 k5
  have hg := one_get
  have ht := one_top
  have hf := fill_ok
  have htf := fill_top
  go_wp2_with fail
  refine (chunk_Get b _ 256 _ HC5.out).mono ?_
  rintro e w6 ⟨rfl, rfl⟩
  simp only [hg]
  go_wp2_with fail
  refine (chunk_Top b _ 0 0 _ HC5.out).mono ?_
  rintro e w6 ⟨rfl, rfl⟩
  simp only [ht]
  go_wp2_with fail
  refine (chunk_Fill b _ 0 1 1 _ HC5.out).mono ?_
  rintro e w7 ⟨rfl, hc7, k7⟩
  simp only [hf]
  have q0 := k7.cell HQ0.out (by simp; omega)
  have q3 := k7.cell HQ3.out (by simp; omega)
  have K7 := Lib.hid (K5.out.trans k7 (fun x hx _ => by simp at hx; omega))
  have HC7 := Lib.hid hc7
  clear hc7 k7
  go_wp2_with fail
  refine (chunk_Top b _ 5 5 _ HC7.out).mono ?_
  rintro e w8 ⟨rfl, rfl⟩
  simp only [htf]
  go_wp2
  go_ret
  exact ⟨rfl, K7.out⟩
end Go.Proofs.Ytnppdhaphnemfaa
