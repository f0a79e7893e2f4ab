/- The reference's New: cells of one kind. -/
import Derived.Test.YtnppdhaphnemfaaChkFill
namespace Go.Proofs.Ytnppdhaphnemfaa
open Go.RowKit
set_option linter.unusedVariables false
set_option linter.unusedSimpArgs false

theorem make_row (W : World) : (Instr.makeSlice 25 (.int .i64 32768) (.int .i64 32768)).run Try.prog W = .ok (.slice (some ⟨W.heap.size, 0, none⟩) 32768 32768) (W.alloc (.cells (madeCells #[.int .u8 0] 32768) 5)) := by kernel_rfl
theorem row_made (W : World) : Row (W.alloc (.cells (madeCells #[.int .u8 0] 32768) 5)) W.heap.size (fun _ => 0) :=
  ⟨⟨_, Bk.new _ _ _, by rw [size_madeCells], fun i hi => by
    rw [← Array.getElem?_toList, toList_madeCells_one, List.getElem?_replicate, if_pos hi]⟩, fun i _ => ⟨by omega, by omega⟩⟩

set_option maxRecDepth 20000 in
set_option maxHeartbeats 1000000 in
theorem ref_New (k : Int) (w : World) (k0 : 0 ≤ k) (k1 : k ≤ 16) : Calls Try.prog 23 #[.int .i64 k] w fun e w' => ∃ g, e = .returned (.slice (some ⟨g, 0, none⟩) 32768 32768) ∧ w.heap.size ≤ g ∧ Row w' g (fun _ => k) ∧ Kp [] w w' := by
  have hmk := make_row
  have HM := Lib.hid (row_made w)
  generalize madeCells #[.int .u8 0] 32768 = mc at *
  go_enter Try.func23, Try.ntmps23
  go_wp2
  clear hmk
  go_loopw [4] (fun i wr => ∃ n : Nat, i = .int .i64 n ∧ (n : Int) ≤ 32768 ∧ Hid (Row wr w.heap.size (run (fun _ => 0) 0 n k)) ∧ Hid (Kp [] w wr)) (fun i _ => (32768 - intOf i).toNat)
  case atStart => exact ⟨0, rfl, by omega, (by show Row _ _ _; rw [run_zero]; exact HM.out), (Kp.refl _ _).alloc _⟩
  case round =>
    obtain ⟨n, rfl, hn, HR, HK⟩ := hrel
    by_cases hlt : (n : Int) < 32768
    · have hc := HR.out.cell (i := n) (by omega)
      have hf := HR.out.frozen n
      generalize run (fun _ => 0) 0 n k n = old at *
      go_wp2
      go_roundw
      case rel =>
        refine ⟨n + 1, by go_num, by omega, ?_, ?_⟩
        · show Row _ _ _
          rw [run_succ, Nat.zero_add]
          exact HR.out.put n k k0 k1
        · exact HK.out.setCell (p := ⟨w.heap.size, n, none⟩) (.inr (Nat.le_refl _)) _
      case measure => simp [intOf] <;> omega
    · have hne : n = 32768 := by omega
      subst hne
      go_wp2
      go_ret
      exact ⟨_, rfl, Nat.le_refl _, HR.out.ext fun i hi => by rw [run, if_pos (by omega)], HK.out⟩
end Go.Proofs.Ytnppdhaphnemfaa
