/- ChunkFull: a chunk of any kind is of that kind throughout, or there is none. -/
import Derived.Deep.RegionWith
import Derived.BigQuiet
import Derived.Test.YtnppdhaphnemfaaAwake06
import Derived.Test.YtnppdhaphnemfaaRef06New
import Derived.Test.YtnppdhaphnemfaaChkBytes
namespace Go.Proofs.Ytnppdhaphnemfaa
open Go.RowKit
set_option linter.unusedVariables false
set_option linter.unusedSimpArgs false

/-- The text of a row that is read. -/
theorem str_fact (W : World) (A : Option Addr) (c B : Nat) (f : Nat → Int) (hr : Rd W B A (ints .u8 (cellsL f))) : (convert 25 9 (.slice A 32768 c)).run Try.prog W = .ok (.string (strOfNums (cellsL f))) W :=
  run_string_rd (P := Try.prog) W 25 9 5 Try.underlying25 Try.underlying5 Try.underlying9 A 32768 c B _ (cellsL_length f) hr

set_option maxRecDepth 20000 in
set_option maxHeartbeats 2000000 in
theorem ChunkFull_walk (w : World) (k : Int) (hk : I64 k) :
    Calls Try.prog 7 #[.int .i64 k] w fun e w' => e = .returned (.bool true) ∧ Kp [] w w' := by
  obtain ⟨m0, m1⟩ := hk
  by_cases hg : 0 ≤ k ∧ k ≤ 16
  · obtain ⟨g0, g1⟩ := hg
    have d1 : decide (k < 0) = false := decide_eq_false (by omega)
    have d2 : decide (16 < k) = false := decide_eq_false (by omega)
    go_enter Try.func7, Try.ntmps7
    go_wp2_with (first | (go_at_call 11; refine (awake _).mono ?_; rintro e w1 ⟨rfl, hk1⟩) | (go_at_call 22; refine (chunk_Full k _ ⟨g0, g1⟩).mono ?_; rintro e w2 ⟨b, rfl, hb, hc2, hk2⟩; have HC2 := Lib.hid hc2; have HK2 := Lib.hid (hk1.then hk2); clear hc2 hk2 hk1))
    clear d1 d2 hb
    obtain ⟨so, hso⟩ : ∃ so, so = strOfNums (cellsL (fun _ => k)) := ⟨_, rfl⟩
    have HS : Hid (∀ (W : World) (A : Option Addr) (c B : Nat) (hr : Rd W B A (ints .u8 (cellsL (fun _ => k)))), (convert 25 9 (.slice A 32768 c)).run Try.prog W = .ok (.string so) W) := fun W A c B hr => by rw [hso]; exact str_fact W A c B _ hr
    clear hso
    go_region_with (first
      | (go_at_call 19; refine (chunk_Bytes b _ _ (HC2.out.kp0 (((Kp.refl [] _).drew).then hkn))).mono ?_; rintro e w4 ⟨v4, rfl, hown4, hk4⟩; obtain ⟨A4, c4, rfl, hc4, hA4, hr4⟩ := own_read hown4; have s1 := HS.out w4 A4 c4 _ hr4; have s2 := HS.out w4 _ 32768 _ (hRn.rdL.kp0 hk4))
      | (go_at_call 23; refine (ref_New k _ g0 g1).mono ?_; rintro e w4 ⟨g4, rfl, hg4, hR4, hk4⟩; have s1 := HS.out w4 _ 32768 _ hR4.rdL; have s2 := HS.out w4 A3 c3 _ (hrb.kp0 hk4))
      | (go_at_call 19; refine (chunk_Bytes b _ _ (HC2.out.kp0 ((Kp.refl [] _).drew))).mono ?_; rintro e w3 ⟨v3, rfl, hown3, hkb⟩; obtain ⟨A3, c3, rfl, hc3, hA3, hrb⟩ := own_read hown3; have s0 := HS.out w3 A3 c3 _ hrb)
      | (go_at_call 23; refine (ref_New k _ g0 g1).mono ?_; rintro e w3 ⟨g3, rfl, hg3, hRn, hkn⟩; have s0 := HS.out w3 _ 32768 _ hRn.rdL))
    all_goals
      go_wp2
      go_ret
      first
        | exact ⟨rfl, (HK2.out.drew.then hkb).then hk4⟩
        | exact ⟨rfl, (HK2.out.drew.then hkn).then hk4⟩
  · have hd : (decide (k < 0) = true) ∨ (decide (k < 0) = false ∧ decide (16 < k) = true) := by
      simp only [decide_eq_true_eq, decide_eq_false_iff_not]
      omega
    have HF := Lib.hid (fun W : World => chunk_Full_no k W hg)
    clear hg
    rcases hd with d1 | ⟨d1, d2⟩
    all_goals
      go_enter Try.func7, Try.ntmps7
      go_wp2_with (first | (go_at_call 11; refine (awake _).mono ?_; rintro e w1 ⟨rfl, hk1⟩) | (go_at_call 22; refine (HF.out _).mono ?_; rintro e w2 ⟨rfl, hk2⟩))
      go_ret
      exact ⟨rfl, hk1.then hk2⟩
end Go.Proofs.Ytnppdhaphnemfaa
