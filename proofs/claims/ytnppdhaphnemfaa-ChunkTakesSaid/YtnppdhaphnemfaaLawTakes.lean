/- ChunkTakes: bytes are taken, or refused; what was taken is what was given. -/
import Derived.Test.YtnppdhaphnemfaaAwake06
import Derived.Test.YtnppdhaphnemfaaRef06May
import Derived.Test.YtnppdhaphnemfaaChkBytes
namespace Go.Proofs.Ytnppdhaphnemfaa
open Go.RowKit
set_option linter.unusedVariables false
set_option linter.unusedSimpArgs false

def lenOf (v : Value) : Int := match v with | .slice _ n _ => (n : Int) | _ => 0
theorem cellsL_getD {xs : List Int} (h : xs.length = 32768) : cellsL (fun i => xs.getD i 0) = xs := by
  apply List.ext_getElem?
  intro i
  rw [cellsL, List.getElem?_map]
  rcases Nat.lt_or_ge i 32768 with hi | hi
  · rw [List.getElem?_range hi, List.getElem?_eq_getElem (by omega)]
    simp only [Option.map_some, List.getD_eq_getElem?_getD]
    rw [List.getElem?_eq_getElem (by omega)]
    rfl
  · rw [List.getElem?_eq_none (by rw [List.length_range]; exact hi), List.getElem?_eq_none (by omega)]
    rfl

set_option maxRecDepth 20000 in
set_option maxHeartbeats 2000000 in
theorem ChunkTakes_walk (w : World) (A : Option Addr) (n c : Nat) (xs : List Int) (h : IntSl w .u8 1 A n c xs) (many : Int) (hm : I64 many) (k : Int) (hk : U8 k) :
    Calls Try.prog 6 #[.slice A n c, .int .i64 many, .int .u8 k] w fun e w' => e = .returned (.bool true) ∧ Kp [] w w' := by
  have hn : n ≤ 140737488351232 := by have := h.small; omega
  have hni : (n : Int) ≤ 140737488351232 := by omega
  have HL := Lib.hid h.len
  have HX : Hid (∀ x ∈ xs, 0 ≤ x ∧ x < 256) := fun x hx => by
    have := U8.of_wf (h.wf x hx)
    obtain ⟨a, b⟩ := this
    omega
  have hr := h.rd
  obtain ⟨k0, k1⟩ := hk
  obtain ⟨m0, m1⟩ := hm
  clear h
  by_cases hg : 0 ≤ many ∧ many ≤ 70000 ∧ (n : Int) ≤ 40000
  · obtain ⟨g0, g1, g2⟩ := hg
    have d1 : decide (many < 0) = false := decide_eq_false (by omega)
    have d2 : decide (70000 < many) = false := decide_eq_false (by omega)
    have d3 : decide (40000 < (n : Int)) = false := decide_eq_false (by omega)
    go_enter Try.func6, Try.ntmps6
    go_wp2_with (first | (go_at_call 11; refine (awake _).mono ?_; rintro e w1 ⟨rfl, hk1⟩) | (at_builtin; refine wpList_append_rd _ rfl (.const (.slice none 0 0)) (.tmp 27) 25 5 rfl w1.heap.size (.int .u8 0) 1 1 Try.underlying25 u8_info rfl (by omega) (.slice none 0 0) 0 [] rfl (World.ownsRow_nil _ _ _ _) A n c w.heap.size (ints .u8 xs) rfl (by rw [ints_length, HL.out, Nat.mul_one]) (hr.kp0 hk1) (ints_one _ _) (by omega) (by omega) (Nat.le_refl _) ?_; intro v2 w2 hown2 hg2 hat2))
    have hk2 : Kp [] w1 w2 := (Kp.refl [] w1).own (World.ownsRow_nil w1 w1.heap.size 5 1) (Nat.le_refl _) hg2
    have HK1 := Lib.hid hk1
    have HOW2 := Lib.hid hown2
    have HK2 := Lib.hid hk2
    clear hown2 hk2 hg2 hat2 hk1 hr
    go_loopw [8] (fun v wr => ∃ j : Nat, Hid (wr.ownsRow w1.heap.size 5 1 v (n + j) (ints .u8 (xs ++ List.replicate j k))) ∧ (n : Int) + j ≤ 70000 ∧ Hid (Kp [] w1 wr)) (fun v _ => (many - lenOf v).toNat)
    case atStart => exact ⟨0, by simpa using HOW2, by omega, HK2⟩
    case round =>
      obtain ⟨j, HOW, hj, HK⟩ := hrel
      obtain ⟨A3, c3, rfl, hc3, hA3, hr3⟩ := own_read HOW.out
      have hkk := HK.out.size
      have e1 : ((n + j : Nat) : Int) = (n : Int) + j := by omega
      by_cases hlt : (n : Int) + j < many
      · go_wp2_with (at_builtin; refine wpList_append_one wr rfl (.tmp 33) (.tmp 35) 25 5 rfl w1.heap.size (.int .u8 0) 1 Try.underlying25 u8_info rfl _ (n + j) (ints .u8 (xs ++ List.replicate j k)) _ rfl HOW.out rfl rfl (by omega) (by omega) hkk ?_; intro v3 w3 hown3 hg3 hat3)
        go_roundw
        case rel =>
          refine ⟨j + 1, ?_, by omega, HK.out.own HOW.out (Nat.le_refl _) hg3⟩
          show World.ownsRow _ _ _ _ _ _ _
          have e2 : ints .u8 (xs ++ List.replicate (j + 1) k) = ints .u8 (xs ++ List.replicate j k) ++ [.int .u8 k] := by
            rw [List.replicate_succ', ← List.append_assoc, ints_append]
            rfl
          rw [e2]
          exact hown3
        case measure =>
          obtain ⟨A4, c4, rfl, _, _, _⟩ := own_read hown3
          simp [lenOf]
          omega
      · have hl : (xs ++ List.replicate j k).length = n + j := by rw [List.length_append, List.length_replicate, HL.out]
        have hx2 : ∀ x ∈ xs ++ List.replicate j k, 0 ≤ x ∧ x < 256 := fun x hx => by
          rcases List.mem_append.1 hx with hx | hx
          · exact HX.out x hx
          · obtain ⟨_, rfl⟩ := List.mem_replicate.1 hx
            exact ⟨k0, k1⟩
        have HX2 := Lib.hid hx2
        generalize hys : xs ++ List.replicate j k = ys at *
        generalize hN : n + j = N at *
        have HYL := Lib.hid hl
        have hNi : (N : Int) ≤ 70000 := by omega
        have d4 : decide ((N : Int) < many) = false := decide_eq_false (by omega)
        clear hl hx2 hys hN e1 hj hlt
        by_cases hmy : mayS ys = 0
        · have hN1 := (mayS_zero hmy).1
          rw [HYL.out] at hN1
          subst hN1
          have hn1 := chunk_From A3 32768 c3 wr.heap.size ys wr HYL.out hr3 HX2.out hmy
          have hn2 := fun W : World => fun h : Rd W wr.heap.size A3 (ints .u8 ys) => ref_May A3 32768 c3 wr.heap.size ys W HYL.out h (by omega) HX2.out
          rw [hmy] at hn2
          have H1 := Lib.hid hn1
          have H2 := Lib.hid hn2
          have HR3 := Lib.hid hr3
          obtain ⟨g, cap, e1, hgb, hgl⟩ := HOW.out.form (by omega)
          have hb1 := HK1.out.size
          injection e1 with e1 e2 e3
          subst e1 e3
          have d5 : decide ((32768 : Int) < many) = false := d4
          clear hn1 hn2 hmy hr3 hA3 hc3 e2 hNi d4
          go_wp2_with (first | (go_at_call 20; refine H1.out.mono ?_; rintro e w4 ⟨b, rfl, hb, hc4, hk4⟩; have HC4 := Lib.hid hc4; have HK4 := Lib.hid hk4; clear hc4 hk4) | (go_at_call 21; refine (H2.out w4 (HR3.out.kp0 HK4.out)).mono ?_; rintro e w5 ⟨rfl, rfl⟩; have hs1 := run_string_rd (P := Try.prog) w4 25 9 5 Try.underlying25 Try.underlying5 Try.underlying9 (some ⟨g, 0, none⟩) 32768 c3 _ ys HYL.out (HR3.out.kp0 HK4.out)))
          have HOW4 : Hid (w4.ownsRow w1.heap.size 5 1 (.slice (some ⟨g, 0, none⟩) 32768 c3) 32768 (ints .u8 ys)) := HOW.out.kept (HK4.out.toGrown (row := none) (fun x hx => by cases hx)) (.inr (fun e => by cases e))
          clear hs1
          go_loopw [13] (fun i wq => ∃ (q : Nat) (zs : List Int), i = .int .i64 q ∧ (q : Int) ≤ 32768 ∧ Hid (zs.length = 32768) ∧ Hid (wq.ownsRow w1.heap.size 5 1 (.slice (some ⟨g, 0, none⟩) 32768 c3) 32768 (ints .u8 zs)) ∧ Hid (Kp [g] w4 wq)) (fun i _ => (32768 - intOf i).toNat)
          case atStart => exact ⟨0, ys, rfl, by omega, HYL, HOW4, Kp.refl _ _⟩
          case round =>
            obtain ⟨q, zs, rfl, hq, HZ, HO, HQ⟩ := hrel
            by_cases hql : (q : Int) < 32768
            · have hcell : wr.cell? ⟨g, q, none⟩ = some (.int .u8 (zs.getD q 0)) := by rw [HO.out.cellAt q (by omega), ints_get _ _ _ (by rw [HZ.out]; omega)]
              have hfr := HO.out.frozenAt q
              have HST := Lib.hid (HO.out.stored q (.int .u8 3)).1
              go_wp2
              go_roundw
              case rel =>
                refine ⟨q + 1, zs.set q 3, by go_num, by omega, (by show _ = _; rw [List.length_set]; exact HZ.out), ?_, HQ.out.setCell (p := ⟨g, q, none⟩) (.inl (by simp)) _⟩
                show World.ownsRow _ _ _ _ _ _ _
                have e5 : ints .u8 (zs.set q 3) = (ints .u8 zs).set q (.int .u8 3) := by simp [ints, List.map_set]
                rw [e5]
                exact HST.out
              case measure => simp [intOf] <;> omega
            · have hne : q = 32768 := by omega
              subst hne
              go_wp2_with fail
              refine (chunk_Bytes b _ wr (HC4.out.kp HQ.out (by simp; omega))).mono ?_
              rintro e w6 ⟨v6, rfl, hown6, hk6⟩
              rw [cellsL_getD HYL.out] at hown6
              obtain ⟨A6, c6, rfl, hc6, hA6, hr6⟩ := own_read hown6
              have hs6 := run_string_rd (P := Try.prog) w6 25 9 5 Try.underlying25 Try.underlying5 Try.underlying9 A6 32768 c6 _ ys HYL.out hr6
              clear hown6 hr6 hA6
              generalize strOfNums ys = so at *
              go_wp2
              go_ret
              refine ⟨rfl, ((HK1.out.then HK.out).then HK4.out).trans ((HQ.out.then hk6)) (fun x hx hlt => ?_)⟩
              simp at hx
              omega
        · have hn1 := chunk_From_no A3 N c3 wr.heap.size ys wr HYL.out hr3 (by omega) HX2.out hmy
          have hn2 := ref_May A3 N c3 wr.heap.size ys wr HYL.out hr3 (by omega) HX2.out
          generalize mayS ys = my at *
          have m1 : (my == 0) = false := beq_eq_false_iff_ne.2 hmy
          have m2 : (my != 0) = true := bne_iff_ne.2 hmy
          have H1 := Lib.hid hn1
          have H2 := Lib.hid hn2
          clear hn1 hn2 hmy
          go_wp2_with (first | (go_at_call 20; refine H1.out.mono ?_; rintro e w4 ⟨rfl, rfl⟩) | (go_at_call 21; refine H2.out.mono ?_; rintro e w5 ⟨rfl, rfl⟩))
          go_ret
          exact ⟨rfl, HK1.out.then HK.out⟩
  · have hd : (decide (many < 0) = true) ∨ (decide (many < 0) = false ∧ decide (70000 < many) = true) ∨ (decide (many < 0) = false ∧ decide (70000 < many) = false ∧ decide (40000 < (n : Int)) = true) := by
      simp only [decide_eq_true_eq, decide_eq_false_iff_not]
      omega
    clear hg
    rcases hd with d1 | ⟨d1, d2⟩ | ⟨d1, d2, d3⟩
    all_goals
      go_enter Try.func6, Try.ntmps6
      go_wp2_with (go_at_call 11; refine (awake _).mono ?_; rintro e w1 ⟨rfl, hk1⟩)
      go_ret
      exact ⟨rfl, hk1⟩
end Go.Proofs.Ytnppdhaphnemfaa
