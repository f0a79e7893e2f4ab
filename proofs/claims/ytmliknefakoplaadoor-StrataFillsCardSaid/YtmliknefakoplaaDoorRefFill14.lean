/- The reference's Fill: 32768 bytes, or ErrArg. -/
import Derived.Deep.RegionHeld3
import Derived.Test.YtmliknefakoplaaDoorRefStrata
import Derived.Test.YtmliknefakoplaaDoorFill14
import Derived.Test.YtmliknefakoplaaDoorChkBytes
namespace Go.Proofs.YtmliknefakoplaaDoor
open Go.RowKit
set_option linter.unusedVariables false
set_option linter.unusedSimpArgs false

theorem make_row (W : World) : (Instr.makeSlice 32 (.int .i64 32768) (.int .i64 32768)).run Tryd.prog W = .ok (.slice (some ⟨W.heap.size, 0, none⟩) 32768 32768) (W.alloc (.cells (madeCells #[.int .u8 0] 32768) 5)) := by kernel_rfl
theorem row_made (W : World) : Row 32768 (W.alloc (.cells (madeCells #[.int .u8 0] 32768) 5)) W.heap.size (fun _ => 0) :=
  ⟨⟨_, Bk.new _ _ _, by rw [size_madeCells], fun i hi => by
    rw [← Array.getElem?_toList, toList_madeCells_one, List.getElem?_replicate, if_pos hi]⟩, fun i _ => ⟨by omega, by omega⟩⟩
theorem wrap_q (q : Nat) (h : (q : Int) < 128) : IntKind.i64.wrap (q : Int) = q := by
  simp [IntKind.wrap, IntKind.bits, IntKind.signed]
  omega
theorem wrap_b (v : Int) (h0 : 0 ≤ v) (h1 : v ≤ 15) : IntKind.u8.wrap v = v := by
  simp [IntKind.wrap, IntKind.bits, IntKind.signed]
  omega
def firstF (hs bs : List Int) (n : Nat) : Nat → Int := fun j => if j < n then fillF hs bs j else 0
theorem first_put {hs bs : List Int} {n : Nat} : ∀ j, j < 32768 → firstF hs bs (n + 1) j = (if j = n then fillF hs bs n else firstF hs bs n j) := fun j _ => by
  unfold firstF
  by_cases e : j = n
  · rw [e, if_pos rfl, if_pos (by omega)]
  · rw [if_neg e]
    by_cases h : j < n
    · rw [if_pos h, if_pos (by omega)]
    · rw [if_neg h, if_neg (by omega)]

set_option maxRecDepth 20000 in
set_option maxHeartbeats 4000000 in
theorem ref_Fill (g1 n1 c1 g2 n2 c2 : Nat) (hs bs : List Int) (w : World) (h1 : hs.length = n1) (h2 : bs.length = n2)
    (r1 : Rd w w.heap.size (some ⟨g1, 0, none⟩) (ints .i64 hs)) (r2 : Rd w w.heap.size (some ⟨g2, 0, none⟩) (ints .i64 bs)) :
    Calls Tryd.prog 12 #[.slice (some ⟨g1, 0, none⟩) n1 c1, .slice (some ⟨g2, 0, none⟩) n2 c2] w fun e w' => ((okCols hs bs ∧ ∃ b, e = .returned (.tuple #[.slice (some ⟨b, 0, none⟩) 32768 32768, .int .i64 0]) ∧ w.heap.size ≤ b ∧ Row 32768 w' b (fillF hs bs)) ∨ (¬ okCols hs bs ∧ e = .returned (.tuple #[.slice none 0 0, .int .i64 1]))) ∧ Kp [] w w' := by
  have HA := Lib.hid (fun h band y w => ref_At h band y w)
  have hmk := make_row w
  have HMD := Lib.hid (row_made w)
  have HL1 := Lib.hid h1
  have HL2 := Lib.hid h2
  have HR1 := Lib.hid r1
  have HR2 := Lib.hid r2
  clear h1 h2 r1 r2
  by_cases e1 : n1 = 256
  · by_cases e2 : n2 = 256
    · subst e1 e2
      generalize madeCells #[.int .u8 0] 32768 = mc at *
      go_enter Tryd.func12, Tryd.ntmps12
      go_wp2_with fail
      go_loopw [6] (fun i wx => wx = w ∧ ∃ k : Nat, i = .int .i64 k ∧ (k : Int) ≤ 256 ∧ Hid (∀ i, i < k → mayS (hs.getD i 0) (bs.getD i 0))) (fun i _ => (256 - intOf i).toNat)
      case atStart => exact ⟨rfl, 0, rfl, by omega, fun i h => absurd h (by omega)⟩
      case round =>
        obtain ⟨hwr, k, rfl, hk, HV⟩ := hrel
        subst hwr
        rename World => w
        by_cases hlt : (k : Int) < 256
        · obtain ⟨a, ha, x1⟩ := HR1.out.int (j := k) (by have := HL1.out; omega)
          injection ha with ha
          subst ha
          obtain ⟨a, ha, x2⟩ := HR2.out.int (j := k) (by have := HL2.out; omega)
          injection ha with ha
          subst ha
          rw [add_plain, Nat.zero_add] at x1 x2
          have HVK : Hid (mayS (hs.getD k 0) (bs.getD k 0) → ∀ i, i < k + 1 → mayS (hs.getD i 0) (bs.getD i 0)) := by
            show _ → _
            intro h i hi
            by_cases e : i = k
            · rw [e]; exact h
            · exact HV.out i (by omega)
          have HNO : Hid (¬ mayS (hs.getD k 0) (bs.getD k 0) → ¬ okCols hs bs) := by
            show _ → _
            intro h ho
            exact h (ho.2.2 k (by omega))
          generalize hs.getD k 0 = H at *
          generalize bs.getD k 0 = B at *
          by_cases m1 : H < 0
          · have HNV := Lib.hid (HNO.out (fun h => by have := h.1; omega))
            have d1 : decide (H < 0) = true := by simpa using m1
            clear HNO HVK
            go_wp2_with fail
            go_ret2
            exact ⟨.inr ⟨HNV.out, rfl⟩, Kp.refl _ _⟩
          · have d1 : decide (H < 0) = false := by simpa using m1
            by_cases m2 : 128 ≤ H
            · have HNV := Lib.hid (HNO.out (fun h => by have := h.2.1; omega))
              have d2 : decide (128 ≤ H) = true := by simpa using m2
              clear HNO HVK
              go_wp2_with fail
              go_ret2
              exact ⟨.inr ⟨HNV.out, rfl⟩, Kp.refl _ _⟩
            · have d2 : decide (128 ≤ H) = false := by simpa using m2
              by_cases m3 : B < 0
              · have HNV := Lib.hid (HNO.out (fun h => by have := h.2.2.1; omega))
                have d3 : decide (B < 0) = true := by simpa using m3
                clear HNO HVK
                go_wp2_with fail
                go_ret2
                exact ⟨.inr ⟨HNV.out, rfl⟩, Kp.refl _ _⟩
              · have d3 : decide (B < 0) = false := by simpa using m3
                by_cases m4 : 4 ≤ B
                · have HNV := Lib.hid (HNO.out (fun h => by have := h.2.2.2; omega))
                  have d4 : decide (4 ≤ B) = true := by simpa using m4
                  clear HNO HVK
                  go_wp2_with fail
                  go_ret2
                  exact ⟨.inr ⟨HNV.out, rfl⟩, Kp.refl _ _⟩
                · have d4 : decide (4 ≤ B) = false := by simpa using m4
                  have HVV := Lib.hid (HVK.out ⟨by omega, by omega, by omega, by omega⟩)
                  clear HNO HVK
                  go_wp2_with fail
                  go_roundw
                  case rel => exact ⟨by first | rfl | trivial, k + 1, by go_num, by omega, HVV⟩
                  case measure => simp [intOf]; omega
        · have hke : k = 256 := by omega
          have HOK : Hid (okCols hs bs) := ⟨HL1.out, HL2.out, fun i hi => HV.out i (by omega)⟩
          clear HV hk hke
          go_wp2_with fail
          clear hlt
          go_loopw [8] (fun i wx => ∃ n : Nat, i = .int .i64 n ∧ (n : Int) ≤ 32768 ∧ Hid (Row 32768 wx w.heap.size (firstF hs bs n)) ∧ Hid (Kp [] w wx)) (fun i _ => (32768 - intOf i).toNat)
          case atStart => exact ⟨0, rfl, by omega, HMD.out.ext (fun i _ => by unfold firstF; rw [if_neg (by omega)]), (Kp.refl _ _).alloc _⟩
          case round =>
            obtain ⟨n, rfl, hn, HRW, HK⟩ := hrel
            by_cases hlt : (n : Int) < 32768
            · obtain ⟨a, ha, x1⟩ := (HR1.out.kp0 HK.out).int (j := n % 256) (by have := HL1.out; omega)
              injection ha with ha
              subst ha
              obtain ⟨a, ha, x2⟩ := (HR2.out.kp0 HK.out).int (j := n % 256) (by have := HL2.out; omega)
              injection ha with ha
              subst ha
              rw [add_plain, Nat.zero_add] at x1 x2
              have hcc := HRW.out.cell (i := n) (by omega)
              have hcf := HRW.out.frozen n
              have HF : Hid (fillF hs bs n = atS (hs.getD (n % 256) 0) (bs.getD (n % 256) 0) ((n / 256 : Nat) : Int)) := rfl
              have ht : (n : Int).tmod 256 = ((n % 256 : Nat) : Int) := by rw [Int.tmod_eq_emod_of_nonneg (by omega)]; omega
              have hd : (n : Int).tdiv 256 = ((n / 256 : Nat) : Int) := by rw [Int.tdiv_eq_ediv_of_nonneg (by omega)]; omega
              have hr1 : ((n % 256 : Nat) : Int) < 256 := by omega
              have hq1 : ((n / 256 : Nat) : Int) < 128 := by omega
              have HLT := Lib.hid hlt
              have hg1 : g1 ≠ w.heap.size := by
                obtain ⟨a, ha, y⟩ := HR1.out.int (j := 0) (by have := HL1.out; omega)
                injection ha with ha
                subst ha
                have := World.block_lt_of_cell? _ _ y
                simp [Addr.add] at this
                omega
              have hg2 : g2 ≠ w.heap.size := by
                obtain ⟨a, ha, y⟩ := HR2.out.int (j := 0) (by have := HL2.out; omega)
                injection ha with ha
                subst ha
                have := World.block_lt_of_cell? _ _ y
                simp [Addr.add] at this
                omega
              have HX1 : Hid (∀ v, (wr.setCell ⟨w.heap.size, n, none⟩ v).drew.cell? ⟨g1, n % 256, none⟩ = some (.int .i64 (hs.getD (n % 256) 0))) := fun v => ((Kp.refl [w.heap.size] wr).setCell (p := ⟨w.heap.size, n, none⟩) (.inl (by simp)) v).drew.cell x1 (by simp; exact hg1)
              have HX2 : Hid (∀ v, (wr.setCell ⟨w.heap.size, n, none⟩ v).drew.cell? ⟨g2, n % 256, none⟩ = some (.int .i64 (bs.getD (n % 256) 0))) := fun v => ((Kp.refl [w.heap.size] wr).setCell (p := ⟨w.heap.size, n, none⟩) (.inl (by simp)) v).drew.cell x2 (by simp; exact hg2)
              have HFP := Lib.hid (first_put (hs := hs) (bs := bs) (n := n))
              have HRG := Lib.hid (fun H B y => atS_range H B y)
              clear hg1 hg2
              generalize hs.getD (n % 256) 0 = H at *
              generalize bs.getD (n % 256) 0 = B at *
              generalize hold : firstF hs bs n n = old at *
              clear hold
              generalize n % 256 = r at *
              generalize n / 256 = q at *
              go_wp2_with fail
              go_region_held3 (fun w' => w'.cell? ⟨g1, r, none⟩ = some (.int .i64 H) ∧ w'.cell? ⟨g2, r, none⟩ = some (.int .i64 B)) (first | exact ⟨x1, x2⟩ | exact ⟨HX1.out _, HX2.out _⟩) ((go_at_call 9; refine (HA.out _ _ _ _).mono ?_; rintro e w' ⟨rfl, rfl⟩))
              go_wp2_with fail
              go_roundw
              case rel =>
                refine ⟨n + 1, by go_num, by omega, ?_, (HK.out.setCell (p := ⟨w.heap.size, n, none⟩) (.inr (Nat.le_refl _)) _).drew⟩
                have hr := HRG.out H B q
                rw [Int.emod_eq_of_lt hr.1 (by omega)]
                refine ((HRW.out.put n (atS H B q) hr.1 (by omega)).ext (fun j hj => ?_)).kp0 ((Kp.refl [] _).drew)
                rw [HFP.out j hj, HF.out]
              case measure => simp [intOf]; omega
            · have hne : n = 32768 := by omega
              subst hne
              go_wp2_with fail
              go_ret2
              exact ⟨.inl ⟨HOK.out, _, rfl, Nat.le_refl _, HRW.out.ext fun i hi => by unfold firstF; rw [if_pos (by omega)]⟩, HK.out⟩
    · have HE2 : Hid (¬ okCols hs bs) := fun h => by have := HL2.out; have := h.2.1; omega
      subst e1
      clear hmk HMD
      go_enter Tryd.func12, Tryd.ntmps12
      go_wp2_with fail
      go_ret2
      exact ⟨.inr ⟨HE2.out, rfl⟩, Kp.refl _ _⟩
  · have HE2 : Hid (¬ okCols hs bs) := fun h => by have := HL1.out; have := h.1; omega
    clear hmk HMD
    go_enter Tryd.func12, Tryd.ntmps12
    go_wp2_with fail
    go_ret2
    exact ⟨.inr ⟨HE2.out, rfl⟩, Kp.refl _ _⟩
end Go.Proofs.YtmliknefakoplaaDoor
