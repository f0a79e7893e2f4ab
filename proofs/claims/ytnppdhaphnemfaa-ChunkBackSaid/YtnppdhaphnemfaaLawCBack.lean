/- ChunkBack: bytes of a chunk make the same chunk again. -/
import Derived.Deep.RegionWith
import Derived.Test.YtnppdhaphnemfaaAwake06
import Derived.Test.YtnppdhaphnemfaaPlays06
import Derived.Test.YtnppdhaphnemfaaMade06
import Derived.Test.YtnppdhaphnemfaaChkDiff
import Derived.Test.YtnppdhaphnemfaaLawFull
namespace Go.Proofs.Ytnppdhaphnemfaa
open Go.RowKit
set_option linter.unusedVariables false
set_option linter.unusedSimpArgs false

set_option maxRecDepth 20000 in
set_option maxHeartbeats 4000000 in
theorem ChunkBack_walk (w : World) (A : Option Addr) (n c : Nat) (xs : List Int) (h : RowsSl w 4 A n c xs) :
    Calls Try.prog 9 #[.slice A n c] w fun e w' => e = .returned (.bool true) ∧ Kp [] w w' := by
  have hn : (n : Int) ≤ 140737488351232 := by have := h.small; omega
  have HP := Lib.hid (fun (w1 : World) (k : Kp [] w w1) => plays06 w1 A n c w.heap.size xs h.len (h.rd.kp0 k) k.size hn h.i64)
  clear h
  obtain ⟨F, hF⟩ : ∃ F, F = play06 xs (min n 400) := ⟨_, rfl⟩
  rw [← hF] at HP
  clear hF
  go_enter Try.func9, Try.ntmps9
  go_wp2_with (first | (go_at_call 11; refine (awake _).mono ?_; rintro e w1 ⟨rfl, hk1⟩; have HK1 := Lib.hid hk1; clear hk1) | (go_at_call 12; refine (HP.out w1 HK1.out).mono ?_; rintro e w2 ⟨b, g, rfl, hb, hg, hc2, hr2, hk2⟩; have HC2 := Lib.hid hc2; have HK2 := Lib.hid (HK1.out.then hk2); clear hc2 hr2 hk2))
  refine (chunk_Bytes b F w2 HC2.out).mono ?_
  rintro e w3 ⟨v3, rfl, hown3, hk3⟩
  obtain ⟨A3, c3, rfl, _, _, hr3⟩ := own_read hown3
  have HC3 := Lib.hid (HC2.out.kp0 hk3)
  have HK3 := Lib.hid (HK2.out.then hk3)
  have HR3 := Lib.hid hr3
  clear hown3 hk3 hr3 HC2 HK2
  go_wp2_with fail
  refine (Made06 A3 c3 _ F w3 HR3.out HC3.out.rng).mono ?_
  rintro e w4 ⟨d, rfl, hd, hcd4, hk4⟩
  have HD4 := Lib.hid hcd4
  have HC4 := Lib.hid (HC3.out.kp0 hk4)
  have HK4 := Lib.hid (HK3.out.then hk4)
  clear hcd4 hk4 HC3 HK3 HR3
  have HDS : Hid (diffTo F F 32768 = []) := diffTo_same F F 32768 (fun _ _ => rfl)
  obtain ⟨so, hso⟩ : ∃ so, so = strOfNums (cellsL F) := ⟨_, rfl⟩
  have HS : Hid (∀ (W : World) (A : Option Addr) (c B : Nat) (hr : Rd W B A (ints .u8 (cellsL F))), (convert 25 9 (.slice A 32768 c)).run Try.prog W = .ok (.string so) W) := fun W A c B hr => by rw [hso]; exact str_fact W A c B _ hr
  clear hso HP
  go_wp2_with fail
  go_region_with (first
    | (go_at_call 26; refine (chunk_Diff b d F F _ (HC4.out.kp0 (Kp.refl [] _).drew) (HD4.out.kp0 (Kp.refl [] _).drew)).mono ?_; rintro e w5 ⟨v5, rfl, hown5, hk5⟩; rw [HDS.out] at hown5; obtain ⟨A5, c5, rfl, _, _, _⟩ := own_read hown5; clear hown5)
    | (go_at_call 19; have t6 := hr6; refine (chunk_Bytes b F _ (HC4.out.kp0 (((Kp.refl [] _).drew.then hk5).then hk6))).mono ?_; rintro e w7 ⟨v7, rfl, hown7, hk7⟩; obtain ⟨A7, c7, rfl, _, _, hr7⟩ := own_read hown7; have s1 := HS.out w7 A7 c7 _ hr7; have s2 := HS.out w7 A6 c6 _ (hr6.kp0 hk7); clear hown7 t6)
    | (go_at_call 19; refine (chunk_Bytes d F _ (HD4.out.kp0 ((Kp.refl [] _).drew.then hk5))).mono ?_; rintro e w6 ⟨v6, rfl, hown6, hk6⟩; obtain ⟨A6, c6, rfl, _, _, hr6⟩ := own_read hown6; have s0 := HS.out w6 A6 c6 _ hr6; clear hown6))
  all_goals
    go_wp2
    go_ret
    exact ⟨rfl, ((HK4.out.drew.then hk5).then hk6).then hk7⟩
end Go.Proofs.Ytnppdhaphnemfaa
