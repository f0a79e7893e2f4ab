/- The reference's Counts. -/
import Derived.Test.YtnppdhaphnemfaaChkCounts
namespace Go.Proofs.Ytnppdhaphnemfaa
open Go.RowKit
set_option linter.unusedVariables false
set_option linter.unusedSimpArgs false

set_option maxRecDepth 20000 in
set_option maxHeartbeats 1000000 in
theorem ref_Counts (b : Nat) (f : Nat → Int) (w : World) (h : Row w b f) :
    Calls Try.prog 17 #[.slice (some ⟨b, 0, none⟩) 32768 32768] w fun e w' => ∃ v, e = .returned v ∧ w'.ownsRow w.heap.size 3 1 v 17 (ints .i64 (cntL f 32768)) ∧ Kp [] w w' := by
  have HH := Lib.hid h
  have HR := Lib.hid h.rng
  have hmk := make_counts
  clear h
  go_enter Try.func17, Try.ntmps17
  go_wp2
  have hz17 : ints .i64 (cntL f 0) = (madeCells #[.int .i64 0] 17).toList := by
    have h0 : cntL f 0 = List.replicate 17 0 := rfl
    rw [h0, toList_madeCells_one]
    simp [ints]
  have hown0 : (w.alloc (.cells (madeCells #[.int .i64 0] 17) 3)).ownsRow w.heap.size 3 1 (.slice (some ⟨w.heap.size, 0, none⟩) 17 17) 17 (ints .i64 (cntL f 0)) := by
    rw [hz17]
    exact World.ownsRow_lit (base := w.heap.size) (size := 1) w (madeCells #[.int .i64 0] 17) 17 (Nat.le_refl _) (by simp [maxLen]) (by rw [size_madeCells])
  have HOWN := Lib.hid hown0
  clear hz17 hown0 hmk
  go_loopw [4] (fun i wr => ∃ n : Nat, i = .int .i64 n ∧ (n : Int) ≤ 32768 ∧ wr.ownsRow w.heap.size 3 1 (.slice (some ⟨w.heap.size, 0, none⟩) 17 17) 17 (ints .i64 (cntL f n)) ∧ Kp [] w wr) (fun i _ => (32768 - intOf i).toNat)
  case atStart => exact ⟨0, rfl, by omega, HOWN.out, (Kp.refl _ _).alloc _⟩
  case round =>
    obtain ⟨n, rfl, hn, hown, hk⟩ := hrel
    by_cases hlt : (n : Int) < 32768
    · have hc0 := (HH.out.kp0 hk).cell (i := n) (by omega)
      obtain ⟨r0, r1⟩ := HR.out n (by omega)
      have HST := Lib.hid (cntL_step f n r0 r1)
      obtain ⟨c0, c1⟩ := cnt_range f (f n) n
      obtain ⟨q, hq⟩ := Int.eq_ofNat_of_zero_le r0
      have hq17 : q < 17 := by omega
      have hcell : wr.cell? ⟨w.heap.size, q, none⟩ = some (.int .i64 (cnt f (f n) n)) := by
        rw [hown.cellAt q (by omega), ints_get _ _ _ (by rw [cntL_length]; exact hq17), cntL_get f n q hq17, ← hq]
      have hfr := hown.frozenAt q
      have HQ := Lib.hid hq
      generalize cnt f (f n) n = c at *
      rw [hq] at hc0 r0 r1
      rw [hq, Int.toNat_natCast] at HST
      have hqi : (q : Int) < 17 := by omega
      clear hq hq17
      go_wp2
      all_goals
        go_roundw
        case rel =>
          refine ⟨n + 1, by go_num, by omega, ?_, hk.setCell (.inr (Nat.le_refl _)) _⟩
          have h5 := hown.stored q (.int .i64 (c + 1))
          have h6 : ints .i64 (cntL f (n + 1)) = (ints .i64 (cntL f n)).set q (.int .i64 (c + 1)) := by
            rw [HST.out]
            simp [ints, List.map_set]
          rw [h6]
          exact h5.1
        case measure => simp [intOf] <;> omega
    · have hne : n = 32768 := by omega
      subst hne
      go_wp2
      go_ret
      exact ⟨_, rfl, hown, hk⟩
end Go.Proofs.Ytnppdhaphnemfaa
