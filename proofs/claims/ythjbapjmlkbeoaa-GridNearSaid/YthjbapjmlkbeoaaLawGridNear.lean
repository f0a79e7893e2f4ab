/- GridNear: the chunks near any chunk are those that the document lists; it is near each of them. -/
import Derived.Deep.DeepCutAuto
import Derived.Deep.CutBlock
import Derived.Test.YthjbapjmlkbeoaaHas
import Derived.Test.YthjbapjmlkbeoaaAwake04
import Derived.Test.YthjbapjmlkbeoaaFlat
import Derived.Test.YthjbapjmlkbeoaaRing
namespace Go.Proofs.Ythjbapjmlkbeoaa
open Go.RowKit
set_option linter.unusedVariables false
set_option linter.unusedSimpArgs false

theorem cntP_mono (f : Nat → Int × Int) (d : Int × Int) (k : Nat) : cntP f d k ≤ cntP f d (k + 1) := by
  rw [cntP]
  omega

set_option maxRecDepth 20000 in
set_option maxHeartbeats 8000000 in
theorem GridNear_walk (w : World) (cx cz r : Int) :
    Calls Try.prog 6 #[.agg #[.int .i64 cx, .int .i64 cz], .int .i64 r] w fun e w' => e = .returned (.bool true) ∧ Kp [] w w' := by
  go_enter Try.func6, Try.ntmps6
  go_wp2_with fail
  refine (awake _).mono ?_
  rintro e w1 ⟨rfl, k1⟩
  obtain ⟨b0, b1⟩ := box2 k1 (by simp)
  have K1 : Hid (Kp [] w w1) := ((Kp.refl [] w).alloc _).then k1
  clear k1
  have hc : cx < -1099511627776 ∨ (-1099511627776 ≤ cx ∧ 1099511627776 < cx) ∨ ((-1099511627776 ≤ cx ∧ cx ≤ 1099511627776) ∧ cz < -1099511627776) ∨ ((-1099511627776 ≤ cx ∧ cx ≤ 1099511627776) ∧ -1099511627776 ≤ cz ∧ 1099511627776 < cz) ∨
    ((-1099511627776 ≤ cx ∧ cx ≤ 1099511627776) ∧ -1099511627776 ≤ cz ∧ cz ≤ 1099511627776) := by omega
  rcases hc with h | ⟨h3, h⟩ | ⟨⟨h3, h4⟩, h⟩ | ⟨⟨h3, h4⟩, h5, h⟩ | ⟨⟨h3, h4⟩, h5, h6⟩
  · go_wp2_with fail
    go_ret
    exact ⟨rfl, K1.out⟩
  all_goals have t3 : decide (cx < -1099511627776) = false := by simpa using h3
  · go_wp2_with fail
    go_ret
    exact ⟨rfl, K1.out⟩
  all_goals have t4 : decide (1099511627776 < cx) = false := by simpa using h4
  · go_wp2_with fail
    go_ret
    exact ⟨rfl, K1.out⟩
  all_goals have t5 : decide (cz < -1099511627776) = false := by simpa using h5
  · go_wp2_with fail
    go_ret
    exact ⟨rfl, K1.out⟩
  have t6 : decide (1099511627776 < cz) = false := by simpa using h6
  go_wp2_with fail
  refine (grid_Near _ _ _ _).mono ?_
  rintro e w2 ⟨v, rfl, hown, k2⟩
  have K2 : Hid (Kp [] w w2) := K1.out.then k2
  have c0 := k2.cell b0 (by simp)
  have c1 := k2.cell b1 (by simp)
  clear k2 b0 b1 K1
  by_cases hr : 0 ≤ r ∧ r ≤ 8
  · obtain ⟨h1, h2⟩ := hr
    obtain ⟨s, hs⟩ : ∃ s, lenS (-r) r = s := ⟨_, rfl⟩
    have hsr : (s : Int) = 2 * r + 1 := by rw [← hs, lenS]; omega
    have HLq : Hid (∀ qx qz, nearL qx qz r = (List.range (s * s)).map (nearP qx qz r)) := by
      show ∀ qx qz, nearL qx qz r = (List.range (s * s)).map (nearP qx qz r)
      intro qx qz
      rw [nearL, wthn_true.2 ⟨h1, h2⟩, if_pos rfl, near_count h1 h2, hs]
    have HLL : Hid (∀ qx qz, (nearL qx qz r).length = s * s) := by
      show ∀ qx qz, (nearL qx qz r).length = s * s
      intro qx qz
      rw [HLq.out, List.length_map, List.length_range]
    have HNP : Hid (∀ j, j < s * s → ∃ p q : Int, nearP cx cz r j = (cx + p, cz + q) ∧ (-r ≤ p ∧ p ≤ r) ∧ -r ≤ q ∧ q ≤ r) := by
      show ∀ j, j < s * s → ∃ p q : Int, nearP cx cz r j = (cx + p, cz + q) ∧ (-r ≤ p ∧ p ≤ r) ∧ -r ≤ q ∧ q ≤ r
      intro j hj
      obtain ⟨e, a1, a2⟩ := nearP_out h1 h2 (cx := cx) (cz := cz) (by omega) (by omega) hs hj
      refine ⟨_, _, e, ?_⟩
      clear e hj
      generalize j % s = p at *
      generalize j / s = q at *
      omega
    have HIn : Hid (∀ p q : Int, (-r ≤ p ∧ p ≤ r) ∧ -r ≤ q ∧ q ≤ r → cntP (nearP (cx + p) (cz + q) r) (cx, cz) (s * s) = 1) := by
      show ∀ p q : Int, (-r ≤ p ∧ p ≤ r) ∧ -r ≤ q ∧ q ≤ r → cntP (nearP (cx + p) (cz + q) r) (cx, cz) (s * s) = 1
      intro p q h
      have := ring_in (cx := cx + p) (cz := cz + q) (x := -p) (z := -q) h1 h2 (by omega) (by omega) hs (by omega)
      rwa [show cx + p + -p = cx by omega, show cz + q + -q = cz by omega] at this
    have hN : s * s ≤ 289 := Nat.mul_le_mul (show s ≤ 17 by omega) (show s ≤ 17 by omega)
    have hN1 : 1 ≤ s * s := Nat.mul_pos (by omega) (by omega)
    clear hs hsr
    rw [HLL.out] at hown
    obtain ⟨g, cap, rfl, hgb, hgl⟩ := hown.form (by omega)
    have HO2 := Lib.hid hown
    clear hown hgb
    go_wp2_with fail
    refine (ref_Near _ _ _ _).mono ?_
    rintro e w3 ⟨v3, rfl, hown, k3⟩
    rw [HLL.out] at hown
    obtain ⟨g3, cap3, rfl, hgb3, hgl3⟩ := hown.form (by omega)
    have HO3 := Lib.hid hown
    have HR2 : Hid (∀ j, j < s * s → w3.cell? ⟨g, j * 2, none⟩ = some (.int .i64 (nearP cx cz r j).1) ∧ w3.cell? ⟨g, j * 2 + 1, none⟩ = some (.int .i64 (nearP cx cz r j).2)) := by
      show ∀ j, j < s * s → w3.cell? ⟨g, j * 2, none⟩ = some (.int .i64 (nearP cx cz r j).1) ∧ w3.cell? ⟨g, j * 2 + 1, none⟩ = some (.int .i64 (nearP cx cz r j).2)
      intro j hj
      have a := ats_get (nearL cx cz r) j (by rw [HLL.out]; exact hj)
      rw [nearL_get (HLq.out _ _) hj] at a
      have a1 := k3.cell (HO2.out.cells (g := g) rfl _ _ a.1) (by simp)
      have a2 := k3.cell (HO2.out.cells (g := g) rfl _ _ a.2) (by simp)
      rw [add_plain, Nat.zero_add] at a1 a2
      exact ⟨a1, a2⟩
    have HR3 : Hid (∀ j, j < s * s → w3.cell? ⟨g3, j * 2, none⟩ = some (.int .i64 (nearP cx cz r j).1) ∧ w3.cell? ⟨g3, j * 2 + 1, none⟩ = some (.int .i64 (nearP cx cz r j).2)) := by
      show ∀ j, j < s * s → w3.cell? ⟨g3, j * 2, none⟩ = some (.int .i64 (nearP cx cz r j).1) ∧ w3.cell? ⟨g3, j * 2 + 1, none⟩ = some (.int .i64 (nearP cx cz r j).2)
      intro j hj
      have a := ats_get (nearL cx cz r) j (by rw [HLL.out]; exact hj)
      rw [nearL_get (HLq.out _ _) hj] at a
      have a1 := HO3.out.cells (g := g3) rfl _ _ a.1
      have a2 := HO3.out.cells (g := g3) rfl _ _ a.2
      rw [add_plain, Nat.zero_add] at a1 a2
      exact ⟨a1, a2⟩
    have D0 := Lib.hid (k3.cell c0 (by simp))
    have D1 := Lib.hid (k3.cell c1 (by simp))
    have K3 : Hid (Kp [] w w3) := K2.out.then k3
    clear k3 c0 c1 K2 hown HO2 HO3 hgl hgb3 hgl3
    generalize s * s = N at *
    go_wp2_with fail
    go_loopw [8] (fun i wr => ∃ k : Nat, k ≤ N ∧ i = .int .i64 k ∧ Hid (Kp [] w3 wr)) (fun i _ => (N - intOf i).toNat)
    case atStart => exact ⟨0, by omega, rfl, Kp.refl _ _⟩
    case round =>
      obtain ⟨k, hk, rfl, HK⟩ := hrel
      by_cases hlt : k < N
      · obtain ⟨e1, e2⟩ := HR2.out k hlt
        obtain ⟨e3, e4⟩ := HR3.out k hlt
        obtain ⟨p, q, hpq, hpb, hqb⟩ := HNP.out k hlt
        have HC1 := Lib.hid (HIn.out p q ⟨hpb, hqb⟩)
        rw [hpq] at e1 e2 e3 e4
        replace e1 := HK.out.cell e1 (by simp)
        replace e2 := HK.out.cell e2 (by simp)
        replace e3 := HK.out.cell e3 (by simp)
        replace e4 := HK.out.cell e4 (by simp)
        have E1 := Lib.hid e1
        have E2 := Lib.hid e2
        have HLT := Lib.hid hlt
        clear hk hpq hpb hqb
        obtain ⟨px, hpx⟩ : ∃ px, cx + p = px := ⟨_, rfl⟩
        obtain ⟨pz, hpz⟩ : ∃ pz, cz + q = pz := ⟨_, rfl⟩
        rw [hpx] at e1 e3 HC1 E1
        rw [hpz] at e2 e4 HC1 E2
        clear hpx hpz
        dsimp only at e1 e2 e3 e4
        go_wp2_with fail
        go_quiet (fail)
        clear e1 e2 e3 e4
        have e1 : (wr.drewN nq).cell? ⟨g, k * 2, none⟩ = some (.int .i64 px) := E1.out
        have e2 : (wr.drewN nq).cell? ⟨g, k * 2 + 1, none⟩ = some (.int .i64 pz) := E2.out
        go_wp2_with fail
        refine (grid_Near _ _ _ _).mono ?_
        rintro e w5 ⟨v5, rfl, hown, k5⟩
        rw [HLL.out] at hown
        obtain ⟨g5, cap5, rfl, hgb5, hgl5⟩ := hown.form (by omega)
        have HR5 : Hid (∀ j, j < N → w5.cell? ⟨g5, j * 2, none⟩ = some (.int .i64 (nearP px pz r j).1) ∧ w5.cell? ⟨g5, j * 2 + 1, none⟩ = some (.int .i64 (nearP px pz r j).2)) := by
          show ∀ j, j < N → w5.cell? ⟨g5, j * 2, none⟩ = some (.int .i64 (nearP px pz r j).1) ∧ w5.cell? ⟨g5, j * 2 + 1, none⟩ = some (.int .i64 (nearP px pz r j).2)
          intro j hj
          have a := ats_get (nearL px pz r) j (by rw [HLL.out]; exact hj)
          have hg : (nearL px pz r).getD j (0, 0) = nearP px pz r j := by
            rw [HLq.out, List.getD_eq_getElem?_getD, List.getElem?_map, List.getElem?_range hj]
            rfl
          rw [hg] at a
          have a1 := hown.cells (g := g5) rfl _ _ a.1
          have a2 := hown.cells (g := g5) rfl _ _ a.2
          rw [add_plain, Nat.zero_add] at a1 a2
          exact ⟨a1, a2⟩
        have HK5 : Hid (Kp [] w3 w5) := (HK.out.drewN _).then k5
        have F0 := Lib.hid (HK5.out.cell D0.out (by simp))
        have F1 := Lib.hid (HK5.out.cell D1.out (by simp))
        clear hown k5 e1 e2 E1 E2 hgb5 hgl5
        go_wp2_with fail
        go_loopw [10, 11] (fun f i wr => ∃ (m : Nat) (b : Bool), m ≤ N ∧ i = .int .i64 m ∧ f = .bool b ∧ Hid (b = decide (0 < cntP (nearP px pz r) (cx, cz) m)) ∧ Hid (Kp [] w5 wr)) (fun _ i _ => (N - intOf i).toNat)
        case atStart => exact ⟨0, false, by omega, rfl, rfl, rfl, Kp.refl _ _⟩
        case round =>
          obtain ⟨m, b, hm, rfl, rfl, HF, HK6⟩ := hrel
          by_cases hlt2 : m < N
          · have HLT2 := Lib.hid hlt2
            have hst : Hid (cntP (nearP px pz r) (cx, cz) (m + 1) = cntP (nearP px pz r) (cx, cz) m + if nearP px pz r m = (cx, cz) then 1 else 0) := rfl
            obtain ⟨e1, e2⟩ := HR5.out m hlt2
            generalize nearP px pz r m = q at *
            obtain ⟨qx, qz⟩ := q
            replace e1 := HK6.out.cell e1 (by simp)
            replace e2 := HK6.out.cell e2 (by simp)
            have f0 := HK6.out.cell F0.out (by simp)
            have f1 := HK6.out.cell F1.out (by simp)
            dsimp only at e1 e2
            clear hm
            cases b
            · have hz0 : Hid (cntP (nearP px pz r) (cx, cz) m = 0) := by
                show _ = _
                have := HF.out
                have := of_decide_eq_false this.symm
                omega
              have h3 : (qx = cx ∧ qz = cz) ∨ qx ≠ cx ∨ (qx = cx ∧ qz ≠ cz) := by omega
              rcases h3 with ⟨rfl, rfl⟩ | h | ⟨rfl, h⟩
              · have HF2 : Hid (true = decide (0 < cntP (nearP px pz r) (qx, qz) (m + 1))) := by
                  show _ = _
                  rw [hst.out, if_pos rfl]
                  simp
                go_wp2_with fail
                go_quiet (fail)
                go_wp2_with fail
                go_roundw
                case rel => exact ⟨m + 1, true, HLT2.out, by go_num, rfl, HF2, HK6.out.drewN _⟩
                case measure => simp [intOf]; omega
              · have HF2 : Hid (false = decide (0 < cntP (nearP px pz r) (cx, cz) (m + 1))) := by
                  show _ = _
                  rw [hst.out, if_neg (fun e => h (Prod.mk.inj e).1), hz0.out]
                  rfl
                go_wp2_with fail
                go_quiet (fail)
                go_wp2_with fail
                go_roundw
                case rel => exact ⟨m + 1, false, HLT2.out, by go_num, rfl, HF2, HK6.out.drewN _⟩
                case measure => simp [intOf]; omega
              · have HF2 : Hid (false = decide (0 < cntP (nearP px pz r) (qx, cz) (m + 1))) := by
                  show _ = _
                  rw [hst.out, if_neg (fun e => h (Prod.mk.inj e).2), hz0.out]
                  rfl
                go_wp2_with fail
                go_quiet (fail)
                go_wp2_with fail
                go_roundw
                case rel => exact ⟨m + 1, false, HLT2.out, by go_num, rfl, HF2, HK6.out.drewN _⟩
                case measure => simp [intOf]; omega
            · have HF2 : Hid (true = decide (0 < cntP (nearP px pz r) (cx, cz) (m + 1))) := by
                show _ = _
                have h1 := of_decide_eq_true HF.out.symm
                rw [hst.out]
                simp
                omega
              clear e1 e2 f0 f1
              go_wp2_with fail
              go_quiet (fail)
              go_wp2_with fail
              go_roundw
              case rel => exact ⟨m + 1, true, HLT2.out, by go_num, rfl, HF2, HK6.out.drewN _⟩
              case measure => simp [intOf]; omega
          · have : m = N := by omega
            subst this
            obtain rfl : b = true := by
              rw [HF.out, HC1.out]
              rfl
            have hlk := HLT.out
            have HKK := Lib.hid (HK5.out.then HK6.out)
            clear hm hlt2
            go_wp2_with fail
            go_roundw
            case rel => exact ⟨k + 1, HLT.out, by go_num, HKK⟩
            case measure => simp [intOf]; omega
      · have : k = N := by omega
        subst this
        clear hk hlt
        go_wp2_with fail
        go_ret
        exact ⟨rfl, K3.out.then HK.out⟩
  · have HL : Hid (nearL cx cz r = []) := by
      show _ = _
      rw [nearL, wthn_false.2 hr]
      rfl
    rw [HL.out] at hown
    obtain ⟨A, c, rfl, _, _, _⟩ := own_read hown
    clear hown hr
    go_wp2_with fail
    refine (ref_Near _ _ _ _).mono ?_
    rintro e w3 ⟨v3, rfl, hown, k3⟩
    rw [HL.out] at hown
    obtain ⟨A3, c3, rfl, _, _, _⟩ := own_read hown
    clear hown
    have K3 : Hid (Kp [] w w3) := K2.out.then k3
    clear k3
    go_wp2_with fail
    go_loopw [8] (fun i wr => i = .int .i64 0 ∧ Hid (Kp [] w3 wr)) (fun _ _ => 0)
    case atStart => exact ⟨rfl, Kp.refl _ _⟩
    case round =>
      obtain ⟨rfl, HK⟩ := hrel
      go_wp2_with fail
      go_ret
      exact ⟨rfl, K3.out.then HK.out⟩
end Go.Proofs.Ythjbapjmlkbeoaa
