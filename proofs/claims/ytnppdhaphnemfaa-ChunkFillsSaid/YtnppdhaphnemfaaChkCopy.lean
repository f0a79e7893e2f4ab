/- (*chunk.Chunk).Copy: another chunk with the same cells. -/
import Derived.Test.YtnppdhaphnemfaaChkNew
namespace Go.Proofs.Ytnppdhaphnemfaa
open Go.RowKit
set_option linter.unusedVariables false
set_option linter.unusedSimpArgs false

set_option maxRecDepth 20000 in
set_option maxHeartbeats 400000 in
theorem chunk_Copy (b : Nat) (f : Nat → Int) (w : World) (h : Chk w b f) :
    Calls Try.prog 24 #[.pointer (some ⟨b, 0, none⟩)] w fun e w' => ∃ b', e = .returned (.pointer (some ⟨b', 0, none⟩)) ∧ w.heap.size ≤ b' ∧ Chk w' b' f ∧ Kp [] w w' := by
  obtain ⟨zc, hz, hs, hc⟩ := zero_chunk
  have HC := Lib.hid hc
  have HS := Lib.hid hs
  have hb0 := run_zero_chunk hz
  obtain ⟨⟨cs, hbk, hsz, hcs⟩, hrg⟩ := h
  have HB : Hid (Bk w b 60 cs) := hbk
  have HZ := Lib.hid hsz
  have HCS := Lib.hid hcs
  have HR := Lib.hid hrg
  have hone : cs.all (·.oneCell') = true := by
    rw [Array.all_eq_true]
    intro i hi
    have h1 := hcs i (by omega)
    rw [Array.getElem?_eq_getElem hi] at h1
    rw [Option.some.inj h1]
    rfl
  have HO := Lib.hid hone
  clear hz hc hs hbk hsz hcs hrg hone
  go_enter Try.func24, Try.ntmps24
  go_wp2_with (first | (refine wpList_load_row rfl 60 (.tmp 5) rfl b rfl _ cs (0, 0) _ HB.out Try.underlying60 rfl (by rw [HZ.out]; exact chunk_size) ?_) | (refine wpList_store_row rfl 60 (.tmp 3) (.tmp 6) rfl w.heap.size cs rfl rfl 60 zc (heap_alloc_new w _) (by rw [HZ.out]; exact chunk_size) (by rw [HZ.out]; exact HS.out) HO.out ?_))
  go_ret
  refine ⟨_, rfl, Nat.le_refl _, ⟨⟨cs, setRow_heap _ _ _ _ _ _ (heap_alloc_new w _), HZ.out, HCS.out⟩, HR.out⟩, ?_⟩
  refine ((Kp.refl [] w).alloc (.cells zc 60)).grown (row := some w.heap.size) ⟨rfl, rfl, rfl, by simp, fun k hk hne => setRow_other _ _ _ _ (fun e => hne (by rw [e]))⟩ ?_
  intro k hk hlt
  injection hk with hk
  omega
end Go.Proofs.Ytnppdhaphnemfaa
