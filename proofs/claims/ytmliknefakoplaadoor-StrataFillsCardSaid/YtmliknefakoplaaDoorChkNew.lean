/- chunk.New: a chunk of air. -/
import Derived.Test.YtmliknefakoplaaDoorChk
namespace Go.Proofs.YtmliknefakoplaaDoor
open Go.RowKit
set_option linter.unusedVariables false
set_option linter.unusedSimpArgs false

theorem run_zero_chunk {zc : Array Value} (hz : (Tryd.prog.info? 55).map (fun (i : TypeInfo) => i.zero) = some (some (.agg zc))) (W : World) : (zeroValue 55).run Tryd.prog W = .ok (.agg zc) W := by
  obtain ⟨i, hi, hzi⟩ := Option.map_eq_some_iff.1 hz
  simp [zeroValue, typeInfo, hi, hzi]

theorem run_build_zero {zc : Array Value} (hz : (Tryd.prog.info? 55).map (fun (i : TypeInfo) => i.zero) = some (some (.agg zc))) (W : World) : (Instr.build 55 #[]).run Tryd.prog W = .ok (.agg zc) W := by
  obtain ⟨i, hi, hzi⟩ := Option.map_eq_some_iff.1 hz
  have hi58 : ∃ i58, Tryd.prog.info? 53 = some i58 := by
    have h := cells_size
    obtain ⟨i58, h58, _⟩ := Option.map_eq_some_iff.1 h
    exact ⟨i58, h58⟩
  obtain ⟨i58, hi58⟩ := hi58
  simp [Instr.build, zeroValue, typeInfo, hi, hzi, run_underlying Tryd.underlying55, Instr.fill, sizeOf, hi58, Value.cells]

set_option maxHeartbeats 400000 in
theorem chunk_New (w : World) : Calls Tryd.prog 19 #[] w fun e w' => ∃ b, e = .returned (.pointer (some ⟨b, 0, none⟩)) ∧ w.heap.size ≤ b ∧ Chk w' b (fun _ => 0) ∧ Kp [] w w' := by
  obtain ⟨zc, hz, hs, hc⟩ := zero_chunk
  have HC := Lib.hid hc
  have HS := Lib.hid hs
  have hb := run_build_zero hz
  have hb0 := run_zero_chunk hz
  clear hz hc hs
  go_enter Tryd.func19, Tryd.ntmps19
  go_wp2
  go_ret
  exact ⟨_, rfl, Nat.le_refl _, ⟨⟨zc, Bk.new _ _ _, HS.out, HC.out⟩, fun i _ => ⟨by omega, by omega⟩⟩, (Kp.refl _ _).alloc _⟩
end Go.Proofs.YtmliknefakoplaaDoor
