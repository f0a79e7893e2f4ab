/- (*chunk.Chunk).Get: the kind at a place. -/
import Derived.Test.YtnppdhaphnemfaaChkHas
namespace Go.Proofs.Ytnppdhaphnemfaa
open Go.RowKit
set_option linter.unusedVariables false
set_option linter.unusedSimpArgs false

def getS (f : Nat → Int) (i : Int) : Int := if 0 ≤ i ∧ i < 32768 then f i.toNat else -1

set_option maxRecDepth 20000 in
set_option maxHeartbeats 400000 in
theorem chunk_Get (b : Nat) (f : Nat → Int) (i : Int) (w : World) (h : Chk w b f) :
    Calls Try.prog 14 #[.pointer (some ⟨b, 0, none⟩), .int .i64 i] w fun e w' => e = .returned (.int .i64 (getS f i)) ∧ w = w' := by
  by_cases hi : 0 ≤ i ∧ i < 32768
  · have HG : Hid (getS f i = f i.toNat) := if_pos hi
    have hb := decide_eq_true hi
    obtain ⟨i0, i1⟩ := hi
    obtain ⟨k, rfl⟩ := Int.eq_ofNat_of_zero_le i0
    have hc := h.cell (i := k) (by omega)
    obtain ⟨r0, r1⟩ := h.rng k (by omega)
    rw [Int.toNat_natCast] at HG
    generalize f k = v at *
    clear h
    go_enter Try.func14, Try.ntmps14
    go_wp2_with (go_at_call 32; refine (chunk_has _ _).mono ?_; rintro e w1 ⟨rfl, rfl⟩)
    go_ret
    exact ⟨ret_int HG.out.symm, rfl⟩
  · have HG : Hid (getS f i = -1) := if_neg hi
    have hb := decide_eq_false hi
    clear hi h
    go_enter Try.func14, Try.ntmps14
    go_wp2_with (go_at_call 32; refine (chunk_has _ _).mono ?_; rintro e w1 ⟨rfl, rfl⟩)
    go_ret
    exact ⟨ret_int HG.out.symm, rfl⟩
end Go.Proofs.Ytnppdhaphnemfaa
