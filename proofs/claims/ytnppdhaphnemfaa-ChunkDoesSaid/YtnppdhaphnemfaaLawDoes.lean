/- ChunkDoes: whatever is set and filled, each cell, the column's top, the numbers of kinds and all bytes are as the reference says. -/
import Derived.Deep.RegionWith
import Derived.BigQuiet
import Derived.Deep.DeepCutAuto
import Derived.Test.YtnppdhaphnemfaaAwake06
import Derived.Test.YtnppdhaphnemfaaPlays06
import Derived.Test.YtnppdhaphnemfaaRef06Top
import Derived.Test.YtnppdhaphnemfaaRef06Counts
import Derived.Test.YtnppdhaphnemfaaLawFull
namespace Go.Proofs.Ytnppdhaphnemfaa
open Go.RowKit
set_option linter.unusedVariables false
set_option linter.unusedSimpArgs false

set_option maxRecDepth 20000 in
set_option maxHeartbeats 16000000 in
theorem ChunkDoes_walk (w : World) (A : Option Addr) (n c : Nat) (xs : List Int) (h : RowsSl w 4 A n c xs) (i : Int) (hi : I64 i) (x : Int) (hx : I64 x) (z : Int) (hz : I64 z) :
    Calls Try.prog 5 #[.slice A n c, .int .i64 i, .int .i64 x, .int .i64 z] w fun e w' => e = .returned (.bool true) ∧ Kp [] w w' := by
  have hn : (n : Int) ≤ 140737488351232 := by have := h.small; omega
  have HP := Lib.hid (fun (w1 : World) (k : Kp [] w w1) => plays06 w1 A n c w.heap.size xs h.len (h.rd.kp0 k) k.size hn h.i64)
  clear h
  obtain ⟨F, hF⟩ : ∃ F, F = play06 xs (min n 400) := ⟨_, rfl⟩
  rw [← hF] at HP
  clear hF
  obtain ⟨i0, i1⟩ := hi
  obtain ⟨so, hso⟩ : ∃ so, so = strOfNums (cellsL F) := ⟨_, rfl⟩
  have HS : Hid (∀ (W : World) (A : Option Addr) (c B : Nat) (hr : Rd W B A (ints .u8 (cellsL F))), (convert 25 9 (.slice A 32768 c)).run Try.prog W = .ok (.string so) W) := fun W A c B hr => by rw [hso]; exact str_fact W A c B _ hr
  clear hso
  -- what 'want' is
  have hw : (decide (0 ≤ i) = false ∧ Hid (getS F i = -1)) ∨ (decide (0 ≤ i) = true ∧ decide (i < 32768) = false ∧ Hid (getS F i = -1)) ∨ ∃ q : Nat, i = q ∧ (q : Int) < 32768 ∧ Hid (getS F i = F q) := by
    by_cases h0 : 0 ≤ i
    · by_cases h1 : i < 32768
      · obtain ⟨q, rfl⟩ := Int.eq_ofNat_of_zero_le h0
        exact .inr (.inr ⟨q, rfl, h1, (by show _ = _; rw [getS, if_pos ⟨h0, h1⟩, Int.toNat_natCast])⟩)
      · exact .inr (.inl ⟨decide_eq_true h0, decide_eq_false h1, (by show _ = _; rw [getS, if_neg (fun e => h1 e.2)])⟩)
    · exact .inl ⟨decide_eq_false h0, (by show _ = _; rw [getS, if_neg (fun e => h0 e.1)])⟩
  obtain ⟨gv, hgv⟩ : ∃ gv, getS F i = gv := ⟨_, rfl⟩
  have HG := Lib.hid hgv
  clear hgv
  go_enter Try.func5, Try.ntmps5
  go_upto_region 5 with (first | (go_at_call 11; refine (awake _).mono ?_; rintro e w1 ⟨rfl, hk1⟩; have HK1 := Lib.hid hk1; clear hk1) | (go_at_call 12; refine (HP.out w1 HK1.out).mono ?_; rintro e w2 ⟨b, g, rfl, hb, hg, hc2, hr2, hk2⟩; have HC2 := Lib.hid hc2; have HR2 := Lib.hid hr2; have HK2 := Lib.hid (HK1.out.then hk2); clear hc2 hr2 hk2))
  go_cut [13] (fun s13 wx => s13 = .int .i64 (-1) ∧ w2 = wx)
  case first =>
    go_wp2_with fail
    go_meet
    exact ⟨rfl, rfl⟩
  obtain ⟨rfl, rfl⟩ := hcut
  rename_i K0 hK0
  refine hK0 _ _ ?_
  apply wp_seq_k
  intro K1 hK1
  go_cut [13] (fun s13 wx => s13 = .int .i64 gv ∧ w2 = wx)
  case first =>
    rcases hw with ⟨d1, HV⟩ | ⟨d1, d2, HV⟩ | ⟨q, rfl, q1, HV⟩
    · obtain rfl : gv = -1 := HG.out.symm.trans HV.out
      go_wp2_with fail
      go_meet
      exact ⟨rfl, rfl⟩
    · obtain rfl : gv = -1 := HG.out.symm.trans HV.out
      go_wp2_with fail
      go_meet
      exact ⟨rfl, rfl⟩
    · have hq : F q = gv := HV.out.symm.trans HG.out
      have cq := HR2.out.cell (i := q) (by omega)
      obtain ⟨v0, v1⟩ := HR2.out.rng q (by omega)
      rw [hq] at cq v0 v1
      clear hq
      go_wp2_with fail
      go_meet
      exact ⟨rfl, rfl⟩
  case rest =>
    obtain ⟨rfl, rfl⟩ := hcut
    clear hw
    go_wp2_with fail
    refine (chunk_Counts b F w2 HC2.out).mono ?_
    rintro e w3 ⟨v3, rfl, hown3, hk3⟩
    obtain ⟨ga, ca, rfl, hga, hla⟩ := hown3.form (by omega)
    have HO3 := Lib.hid hown3
    have HC3 := Lib.hid (HC2.out.kp0 hk3)
    have HR3 := Lib.hid (HR2.out.kp0 hk3)
    have HK3 := Lib.hid (HK2.out.then hk3)
    clear hown3 hk3 HC2 HR2 HK2
    go_wp2_with fail
    refine (ref_Counts g F w3 HR3.out).mono ?_
    rintro e w4 ⟨v4, rfl, hown4, hk4⟩
    obtain ⟨gb, cb, rfl, hgb, hlb⟩ := hown4.form (by omega)
    have HO4 := Lib.hid hown4
    have HOA : Hid (w4.ownsRow w2.heap.size 3 1 (.slice (some ⟨ga, 0, none⟩) 17 ca) 17 (ints .i64 (cntL F 32768))) := HO3.out.kept (hk4.toGrown (row := none) (fun x hx => by cases hx)) (.inr (fun e => by cases e))
    have HC4 := Lib.hid (HC3.out.kp0 hk4)
    have HR4 := Lib.hid (HR3.out.kp0 hk4)
    have HK4 := Lib.hid (HK3.out.then hk4)
    clear hown4 hk4 HC3 HR3 HK3 HO3
    go_wp2_with fail
    go_loopw [16] (fun v wr => ∃ m : Nat, v = .int .i64 m ∧ (m : Int) ≤ 17 ∧ ∃ dn, wr = w4.drewN dn) (fun v _ => (17 - intOf v).toNat)
    case atStart => exact ⟨0, rfl, by omega, 0, rfl⟩
    case round =>
      obtain ⟨m, rfl, hm, dn, rfl⟩ := hrel
      by_cases hlt : (m : Int) < 17
      · have hm17 : m < 17 := by omega
        have ca : w4.cell? ⟨ga, m, none⟩ = some (.int .i64 (cnt F (m : Int) 32768)) := by rw [HOA.out.cellAt m (by omega), ints_get _ _ _ (by rw [cntL_length]; exact hm17), cntL_get _ _ _ hm17]
        have cb : w4.cell? ⟨gb, m, none⟩ = some (.int .i64 (cnt F (m : Int) 32768)) := by rw [HO4.out.cellAt m (by omega), ints_get _ _ _ (by rw [cntL_length]; exact hm17), cntL_get _ _ _ hm17]
        generalize cnt F (m : Int) 32768 = y at *
        go_wp2_with fail
        go_quiet (fail)
        go_wp2
        all_goals
          go_roundw
          case rel => exact ⟨m + 1, by go_num, by omega, dn + nq, by first | rfl | rw [World.drewN_drewN]⟩
          case measure => simp [intOf] <;> omega
      · have hne : m = 17 := by omega
        subst hne
        have HC5 := Lib.hid (HC4.out.kp0 ((Kp.refl [] w4).drewN dn))
        have HR5 := Lib.hid (HR4.out.kp0 ((Kp.refl [] w4).drewN dn))
        have HK5 := Lib.hid (HK4.out.drewN dn)
        generalize w4.drewN dn = w5 at *
        have s0 := HS.out w5.drew (some ⟨g, 0, none⟩) 32768 _ (HR5.out.rdL.kp0 ((Kp.refl [] w5).drew))
        generalize htp : topS F x z = tp at *
        have HTP := Lib.hid htp
        clear htp HC4 HR4 HK4 HOA HO4
        go_wp2_with fail
        go_region_with (first
          | (go_at_call 14; refine (chunk_Get b F i _ (HC5.out.kp0 (Kp.refl [] _).drew)).mono ?_; rintro e w6 ⟨rfl, rfl⟩; rw [HG.out])
          | (go_at_call 13; refine (chunk_Top b F x z _ (HC5.out.kp0 (Kp.refl [] _).drew)).mono ?_; rintro e w6 ⟨rfl, rfl⟩; rw [HTP.out])
          | (go_at_call 18; refine (ref_Top g F x z _ (HR5.out.kp0 (Kp.refl [] _).drew)).mono ?_; rintro e w6 ⟨rfl, rfl⟩; rw [HTP.out])
          | (go_at_call 19; refine (chunk_Bytes b F _ (HC5.out.kp0 ((Kp.refl [] _).drew))).mono ?_; rintro e w6 ⟨v6, rfl, hown6, hk6⟩; obtain ⟨A6, c6, rfl, _, _, hr6⟩ := own_read hown6; have s1 := HS.out w6 A6 c6 _ hr6; have s2 := HS.out w6 (some ⟨g, 0, none⟩) 32768 _ (HR5.out.rdL.kp0 ((Kp.refl [] w5).drew.then hk6)); clear hown6))
        all_goals
          go_wp2
          go_ret
          exact ⟨rfl, HK5.out.drew.then hk6⟩
end Go.Proofs.Ytnppdhaphnemfaa
