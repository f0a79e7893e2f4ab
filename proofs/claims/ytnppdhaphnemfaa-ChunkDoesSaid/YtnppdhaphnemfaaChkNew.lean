/- chunk.New: a chunk of air. -/
import Derived.Test.YtnppdhaphnemfaaChk
namespace Go.Proofs.Ytnppdhaphnemfaa
open Go.RowKit
set_option linter.unusedVariables false
set_option linter.unusedSimpArgs false

theorem run_zero_chunk {zc : Array Value} (hz : (Try.prog.info? 60).map (fun (i : TypeInfo) => i.zero) = some (some (.agg zc))) (W : World) : (zeroValue 60).run Try.prog W = .ok (.agg zc) W := by
  obtain ⟨i, hi, hzi⟩ := Option.map_eq_some_iff.1 hz
  simp [zeroValue, typeInfo, hi, hzi]

theorem run_build_zero {zc : Array Value} (hz : (Try.prog.info? 60).map (fun (i : TypeInfo) => i.zero) = some (some (.agg zc))) (W : World) : (Instr.build 60 #[]).run Try.prog W = .ok (.agg zc) W := by
  obtain ⟨i, hi, hzi⟩ := Option.map_eq_some_iff.1 hz
  have hi58 : ∃ i58, Try.prog.info? 58 = some i58 := by
    have h := cells_size
    obtain ⟨i58, h58, _⟩ := Option.map_eq_some_iff.1 h
    exact ⟨i58, h58⟩
  obtain ⟨i58, hi58⟩ := hi58
  simp [Instr.build, zeroValue, typeInfo, hi, hzi, run_underlying Try.underlying60, Instr.fill, sizeOf, hi58, Value.cells]

set_option maxHeartbeats 400000 in
theorem chunk_New (w : World) : Calls Try.prog 31 #[] w fun e w' => ∃ b, e = .returned (.pointer (some ⟨b, 0, none⟩)) ∧ w.heap.size ≤ b ∧ Chk w' b (fun _ => 0) ∧ Kp [] w w' := by
  obtain ⟨zc, hz, hs, hc⟩ := zero_chunk
  have HC := Lib.hid hc
  have HS := Lib.hid hs
  have hb := run_build_zero hz
  have hb0 := run_zero_chunk hz
  clear hz hc hs
  go_enter Try.func31, Try.ntmps31
  go_wp2
  go_ret
  exact ⟨_, rfl, Nat.le_refl _, ⟨⟨zc, Bk.new _ _ _, HS.out, HC.out⟩, fun i _ => ⟨by omega, by omega⟩⟩, (Kp.refl _ _).alloc _⟩
end Go.Proofs.Ytnppdhaphnemfaa
