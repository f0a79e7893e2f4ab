/- strata.Fill: a chunk of the cells of its columns, or ErrArg. -/
import Derived.Test.YtmliknefakoplaaDoorStrata
import Derived.Test.YtmliknefakoplaaDoorChkNew
import Derived.Test.YtmliknefakoplaaDoorChkSet
namespace Go.Proofs.YtmliknefakoplaaDoor
open Go.RowKit
set_option linter.unusedVariables false
set_option linter.unusedSimpArgs false

def mayS (h band : Int) : Prop := 0 ≤ h ∧ h < 128 ∧ 0 ≤ band ∧ band < 4
def okCols (hs bs : List Int) : Prop := hs.length = 256 ∧ bs.length = 256 ∧ ∀ i, i < 256 → mayS (hs.getD i 0) (bs.getD i 0)
def fillF (hs bs : List Int) : Nat → Int := fun j => atS (hs.getD (j % 256) 0) (bs.getD (j % 256) 0) ((j / 256 : Nat) : Int)
def partF (hs bs : List Int) (k m : Nat) : Nat → Int := fun j => if j % 256 < k ∨ (j % 256 = k ∧ j / 256 < m) then fillF hs bs j else 0

theorem atS_range (h band y : Int) : 0 ≤ atS h band y ∧ atS h band y ≤ 15 := by
  unfold atS
  (repeat' split) <;> omega
theorem atS_above {h band y : Int} (hy : h < y) (hy2 : 44 < y) : atS h band y = 0 := by
  unfold atS
  (repeat' split) <;> omega
theorem part_zero (hs bs : List Int) : ∀ j, j < 32768 → partF hs bs 0 0 j = 0 := fun j _ => by unfold partF; rw [if_neg (by omega)]
theorem part_all (hs bs : List Int) : ∀ j, j < 32768 → fillF hs bs j = partF hs bs 256 0 j := fun j hj => by unfold partF; rw [if_pos (by omega)]
theorem part_next {hs bs : List Int} {k m : Nat} (h1 : hs.getD k 0 < m) (h2 : 44 < m) : ∀ j, j < 32768 → partF hs bs (k + 1) 0 j = partF hs bs k m j := fun j hj => by
  unfold partF
  by_cases ha : j % 256 < k
  · rw [if_pos (by omega), if_pos (by omega)]
  · by_cases hb : j % 256 = k
    · rw [if_pos (by omega)]
      by_cases hc : j / 256 < m
      · rw [if_pos (by omega)]
      · rw [if_neg (by omega)]
        unfold fillF
        rw [hb]
        exact atS_above (by omega) (by omega)
    · rw [if_neg (by omega), if_neg (by omega)]
theorem part_set {hs bs : List Int} {k m : Nat} (hk : k < 256) (hm : m < 128) : ∀ j, j < 32768 → partF hs bs k (m + 1) j = setS (partF hs bs k m) ((m : Int) * 256 + k) (atS (hs.getD k 0) (bs.getD k 0) m) j := fun j hj => by
  have hr := atS_range (hs.getD k 0) (bs.getD k 0) m
  have ho : okSet ((m : Int) * 256 + k) (atS (hs.getD k 0) (bs.getD k 0) m) = true := decide_eq_true ⟨by omega, by omega⟩
  unfold setS
  rw [ho, if_pos rfl]
  have ht : ((m : Int) * 256 + k).toNat = m * 256 + k := by omega
  rw [ht]
  unfold partF
  by_cases he : j = m * 256 + k
  · rw [if_pos he, if_pos (by omega)]
    unfold fillF
    rw [show j % 256 = k by omega, show j / 256 = m by omega]
  · rw [if_neg he]
    by_cases ha : j % 256 < k ∨ (j % 256 = k ∧ j / 256 < m)
    · rw [if_pos ha, if_pos (by omega)]
    · rw [if_neg ha, if_neg (by omega)]

set_option maxRecDepth 20000 in
set_option maxHeartbeats 4000000 in
theorem strata_Fill (g1 n1 c1 g2 n2 c2 : Nat) (hs bs : List Int) (w : World) (hsl : Soils w) (h1 : hs.length = n1) (h2 : bs.length = n2) (hc1 : n1 ≤ 256) (hc2 : n2 ≤ 256)
    (r1 : Rd w w.heap.size (some ⟨g1, 0, none⟩) (ints .i64 hs)) (r2 : Rd w w.heap.size (some ⟨g2, 0, none⟩) (ints .i64 bs)) :
    Calls Tryd.prog 11 #[.slice (some ⟨g1, 0, none⟩) n1 c1, .slice (some ⟨g2, 0, none⟩) n2 c2] w fun e w' => ((okCols hs bs ∧ ∃ b, e = .returned (.tuple #[.pointer (some ⟨b, 0, none⟩), .int .i64 0]) ∧ w.heap.size ≤ b ∧ Chk w' b (fillF hs bs)) ∨ (¬ okCols hs bs ∧ e = .returned (.tuple #[.pointer none, .int .i64 1]))) ∧ Kp [] w w' := by
  have HC := Lib.hid (fun w => chunk_New w)
  have HM := Lib.hid (fun h band w => strata_may h band w)
  have HA := Lib.hid (fun h band y w hs => strata_At h band y w hs)
  have HS := Lib.hid (fun b f i k w h => chunk_Set b f i k w h)
  have HL1 := Lib.hid h1
  have HL2 := Lib.hid h2
  have HR1 := Lib.hid r1
  have HR2 := Lib.hid r2
  have HSL := Lib.hid hsl
  clear h1 h2 r1 r2 hsl
  by_cases e1 : n1 = 256
  · by_cases e2 : n2 = 256
    · subst e1 e2
      go_enter Tryd.func11, Tryd.ntmps11
      go_wp2_with fail
      refine (HC.out _).mono ?_
      rintro e w1 ⟨b, rfl, hb, hch, k1⟩
      have HB := Lib.hid hb
      have HCH : Hid (Chk w1 b (partF hs bs 0 0)) := hch.ext (part_zero hs bs)
      have K1 := Lib.hid k1
      have HSL1 := Lib.hid (HSL.out.kp k1)
      have HR11 := Lib.hid (HR1.out.kp0 k1)
      have HR21 := Lib.hid (HR2.out.kp0 k1)
      clear hch k1 hb HR1 HR2 HC
      go_wp2_with fail
      go_loopw [21] (fun i wr => ∃ k : Nat, i = .int .i64 k ∧ (k : Int) ≤ 256 ∧ Hid (Chk wr b (partF hs bs k 0)) ∧ Hid (Kp [b] w1 wr) ∧ Hid (∀ i, i < k → mayS (hs.getD i 0) (bs.getD i 0))) (fun i _ => (256 - intOf i).toNat)
      case atStart => exact ⟨0, rfl, by omega, HCH, Kp.refl _ _, fun i h => absurd h (by omega)⟩
      case round =>
        obtain ⟨k, rfl, hk, HCHk, HK, HV⟩ := hrel
        by_cases hlt : (k : Int) < 256
        · obtain ⟨a, ha, x1⟩ := (HR11.out.kp HK.out (fun x hx => by simp at hx; have := HB.out; omega)).int (j := k) (by have := HL1.out; omega)
          injection ha with ha
          subst ha
          obtain ⟨a, ha, x2⟩ := (HR21.out.kp HK.out (fun x hx => by simp at hx; have := HB.out; omega)).int (j := k) (by have := HL2.out; omega)
          injection ha with ha
          subst ha
          rw [add_plain, Nat.zero_add] at x1 x2
          have HNX := Lib.hid (fun m => part_next (hs := hs) (bs := bs) (k := k) (m := m))
          have HST := Lib.hid (fun m => part_set (hs := hs) (bs := bs) (k := k) (m := m))
          have HVK : Hid (mayS (hs.getD k 0) (bs.getD k 0) → ∀ i, i < k + 1 → mayS (hs.getD i 0) (bs.getD i 0)) := by
            show _ → _
            intro h i hi
            by_cases e : i = k
            · rw [e]; exact h
            · exact HV.out i (by omega)
          have HNO : Hid (¬ mayS (hs.getD k 0) (bs.getD k 0) → ¬ okCols hs bs) := by
            show _ → _
            intro h ho
            exact h (ho.2.2 k (by omega))
          generalize hs.getD k 0 = H at *
          generalize hBe : bs.getD k 0 = B at *
          by_cases hmay : mayS H B
          · have HMY := Lib.hid hmay
            have hd : decide (0 ≤ H ∧ H < 128 ∧ 0 ≤ B ∧ B < 4) = true := decide_eq_true hmay
            obtain ⟨b1, b2, b3, b4⟩ := hmay
            have hklt := Lib.hid hlt
            go_wp2_with (go_at_call 17; refine (HM.out _ _ _).mono ?_; rintro e w2 ⟨rfl, rfl⟩)
            case inl =>
              go_loopw [36] (fun i wx => ∃ m : Nat, i = .int .i64 m ∧ (m : Int) ≤ 45 ∧ Hid (Chk wx b (partF hs bs k m)) ∧ Hid (Kp [b] w1 wx)) (fun i _ => (45 - intOf i).toNat)
              case atStart => exact ⟨0, rfl, by omega, HCHk, HK⟩
              case round =>
                obtain ⟨m, rfl, hm, HCm, HKm⟩ := hrel
                by_cases hmlt : (m : Int) < 45
                · obtain ⟨a, ha, y2⟩ := (HR21.out.kp HKm.out (fun x hx => by simp at hx; have := HB.out; omega)).int (j := k) (by have := HL2.out; omega)
                  injection ha with ha
                  subst ha
                  rw [add_plain, Nat.zero_add, hBe] at y2
                  have HSm : Hid (Soils _) := HSL.out.kp (K1.out.trans HKm.out (fun x hx hlt => by simp at hx; have := HB.out; omega))
                  have HML := Lib.hid hmlt
                  have hm128 : (m : Int) < 128 := by omega
                  go_wp2_with (first
                    | (go_at_call 8; refine (HA.out _ _ _ _ HSm.out).mono ?_; rintro e w2 ⟨rfl, k2⟩; have HC2 := Lib.hid (HCm.out.kp0 k2); have HK2 : Hid (Kp [b] w1 w2) := HKm.out.trans k2 (fun x hx hlt => by cases hx); clear k2)
                    | (go_at_call 20; refine (HS.out _ _ _ _ _ HC2.out).mono ?_; rintro e w3 ⟨rfl, c3, k3⟩; have HC3 := Lib.hid c3; have HK3 : Hid (Kp [b] w1 w3) := HK2.out.trans k3 (fun x hx hlt => hx); clear k3 c3))
                  go_roundw
                  case rel => exact ⟨m + 1, by go_num, by omega, HC3.out.ext (HST.out m (by omega) (by omega)), HK3⟩
                  case measure => simp [intOf]; omega
                · have hke : (m : Int) = 45 := by omega
                  go_wp2_with fail
                  go_roundw
                  case rel => exact ⟨k + 1, by go_num, by omega, HCm.out.ext (HNX.out m (by omega) (by omega)), HKm, HVK.out HMY.out⟩
                  case measure => simp [intOf]; omega
            case inr =>
              go_loopw [36] (fun i wx => ∃ m : Nat, i = .int .i64 m ∧ (m : Int) ≤ (H + 1) ∧ Hid (Chk wx b (partF hs bs k m)) ∧ Hid (Kp [b] w1 wx)) (fun i _ => ((H + 1) - intOf i).toNat)
              case atStart => exact ⟨0, rfl, by omega, HCHk, HK⟩
              case round =>
                obtain ⟨m, rfl, hm, HCm, HKm⟩ := hrel
                by_cases hmlt : (m : Int) < (H + 1)
                · obtain ⟨a, ha, y2⟩ := (HR21.out.kp HKm.out (fun x hx => by simp at hx; have := HB.out; omega)).int (j := k) (by have := HL2.out; omega)
                  injection ha with ha
                  subst ha
                  rw [add_plain, Nat.zero_add, hBe] at y2
                  have HSm : Hid (Soils _) := HSL.out.kp (K1.out.trans HKm.out (fun x hx hlt => by simp at hx; have := HB.out; omega))
                  have HML := Lib.hid hmlt
                  have hm128 : (m : Int) < 128 := by omega
                  go_wp2_with (first
                    | (go_at_call 8; refine (HA.out _ _ _ _ HSm.out).mono ?_; rintro e w2 ⟨rfl, k2⟩; have HC2 := Lib.hid (HCm.out.kp0 k2); have HK2 : Hid (Kp [b] w1 w2) := HKm.out.trans k2 (fun x hx hlt => by cases hx); clear k2)
                    | (go_at_call 20; refine (HS.out _ _ _ _ _ HC2.out).mono ?_; rintro e w3 ⟨rfl, c3, k3⟩; have HC3 := Lib.hid c3; have HK3 : Hid (Kp [b] w1 w3) := HK2.out.trans k3 (fun x hx hlt => hx); clear k3 c3))
                  go_roundw
                  case rel => exact ⟨m + 1, by go_num, by omega, HC3.out.ext (HST.out m (by omega) (by omega)), HK3⟩
                  case measure => simp [intOf]; omega
                · have hke : (m : Int) = (H + 1) := by omega
                  go_wp2_with fail
                  go_roundw
                  case rel => exact ⟨k + 1, by go_num, by omega, HCm.out.ext (HNX.out m (by omega) (by omega)), HKm, HVK.out HMY.out⟩
                  case measure => simp [intOf]; omega
          · have hd : decide (0 ≤ H ∧ H < 128 ∧ 0 ≤ B ∧ B < 4) = false := decide_eq_false hmay
            have HNV := Lib.hid (HNO.out hmay)
            clear hmay
            go_wp2_with (go_at_call 17; refine (HM.out _ _ _).mono ?_; rintro e w2 ⟨rfl, rfl⟩)
            go_ret2
            exact ⟨.inr ⟨HNV.out, rfl⟩, K1.out.trans HK.out (fun x hx hlt => by simp at hx; have := HB.out; omega)⟩
        · have hke : k = 256 := by omega
          subst hke
          go_wp2_with fail
          go_ret2
          exact ⟨.inl ⟨⟨HL1.out, HL2.out, HV.out⟩, b, rfl, HB.out, HCHk.out.ext (part_all hs bs)⟩, K1.out.trans HK.out (fun x hx hlt => by simp at hx; have := HB.out; omega)⟩
    · have HE2 : Hid (¬ okCols hs bs) := fun h => by have := HL2.out; have := h.2.1; omega
      subst e1
      go_enter Tryd.func11, Tryd.ntmps11
      go_wp2_with fail
      go_ret2
      exact ⟨.inr ⟨HE2.out, rfl⟩, Kp.refl _ _⟩
  · have HE2 : Hid (¬ okCols hs bs) := fun h => by have := HL1.out; have := h.1; omega
    go_enter Tryd.func11, Tryd.ntmps11
    go_wp2_with fail
    go_ret2
    exact ⟨.inr ⟨HE2.out, rfl⟩, Kp.refl _ _⟩
end Go.Proofs.YtmliknefakoplaaDoor
