/- chunk.Full: one of a kind. -/
import Derived.Test.YtnppdhaphnemfaaChkFill
import Derived.Test.YtnppdhaphnemfaaChkNew
namespace Go.Proofs.Ytnppdhaphnemfaa
open Go.RowKit
set_option linter.unusedVariables false
set_option linter.unusedSimpArgs false

theorem okFill_all (k : Int) : okFill 0 127 k = decide (0 ≤ k ∧ k ≤ 16) := by
  unfold okFill
  rw [Bool.eq_iff_iff]
  simp
theorem fillS_all (f : Nat → Int) (k : Int) (hk : 0 ≤ k ∧ k ≤ 16) (i : Nat) (hi : i < 32768) : fillS f 0 127 k i = k := by
  rw [fillS, okFill_all, decide_eq_true hk, if_pos rfl, run, if_pos (by omega)]

set_option maxRecDepth 20000 in
set_option maxHeartbeats 1000000 in
theorem chunk_Full (k : Int) (w : World) (hk : 0 ≤ k ∧ k ≤ 16) : Calls Try.prog 22 #[.int .i64 k] w fun e w' => ∃ b, e = .returned (.pointer (some ⟨b, 0, none⟩)) ∧ w.heap.size ≤ b ∧ Chk w' b (fun _ => k) ∧ Kp [] w w' := by
  have HN := Lib.hid (chunk_New w)
  have HF := Lib.hid (chunk_Fill (f := fun _ => 0) (lo := 0) (hi := 127) (k := k))
  have HO := Lib.hid (okFill_all k)
  have HK := Lib.hid hk
  have hd := decide_eq_true hk
  clear hk
  go_enter Try.func22, Try.ntmps22
  go_wp2_with (first | (go_at_call 31; refine HN.out.mono ?_; rintro e w1 ⟨b, rfl, hb, hc1, hk1⟩; have HC1 := Lib.hid hc1) | (go_at_call 25; refine (HF.out b w1 HC1.out).mono ?_; rintro e w2 ⟨rfl, hc2, hk2⟩; rw [HO.out]))
  go_ret
  exact ⟨b, rfl, hb, hc2.ext fun i hi => (fillS_all _ _ HK.out i hi).symm, hk1.trans hk2 (fun x hx _ => by simp at hx; omega)⟩
set_option maxRecDepth 20000 in
set_option maxHeartbeats 1000000 in
theorem chunk_Full_no (k : Int) (w : World) (hk : ¬ (0 ≤ k ∧ k ≤ 16)) : Calls Try.prog 22 #[.int .i64 k] w fun e w' => e = .returned (.pointer none) ∧ Kp [] w w' := by
  have HN := Lib.hid (chunk_New w)
  have HF := Lib.hid (chunk_Fill (f := fun _ => 0) (lo := 0) (hi := 127) (k := k))
  have HO := Lib.hid (okFill_all k)
  have HK := Lib.hid hk
  have hd := decide_eq_false hk
  clear hk
  go_enter Try.func22, Try.ntmps22
  go_wp2_with (first | (go_at_call 31; refine HN.out.mono ?_; rintro e w1 ⟨b, rfl, hb, hc1, hk1⟩; have HC1 := Lib.hid hc1) | (go_at_call 25; refine (HF.out b w1 HC1.out).mono ?_; rintro e w2 ⟨rfl, hc2, hk2⟩; rw [HO.out]))
  go_ret
  exact ⟨rfl, hk1.trans hk2 (fun x hx _ => by simp at hx; omega)⟩
end Go.Proofs.Ytnppdhaphnemfaa
