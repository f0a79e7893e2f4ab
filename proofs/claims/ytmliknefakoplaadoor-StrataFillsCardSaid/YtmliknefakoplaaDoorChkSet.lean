/- (*chunk.Chunk).Set: another kind at a place. -/
import Derived.Test.YtmliknefakoplaaDoorChkHas
namespace Go.Proofs.YtmliknefakoplaaDoor
open Go.RowKit
set_option linter.unusedVariables false
set_option linter.unusedSimpArgs false

def okSet (i k : Int) : Bool := decide ((0 ≤ i ∧ i < 32768) ∧ (0 ≤ k ∧ k ≤ 16))
def setS (f : Nat → Int) (i k : Int) : Nat → Int := if okSet i k then fun j => if j = i.toNat then k else f j else f

set_option maxRecDepth 20000 in
set_option maxHeartbeats 400000 in
theorem chunk_Set (b : Nat) (f : Nat → Int) (i k : Int) (w : World) (h : Chk w b f) :
    Calls Tryd.prog 20 #[.pointer (some ⟨b, 0, none⟩), .int .i64 i, .int .i64 k] w fun e w' => e = .returned (.bool (okSet i k)) ∧ Chk w' b (setS f i k) ∧ Kp [b] w w' := by
  by_cases hi : 0 ≤ i ∧ i < 32768
  · by_cases hk : 0 ≤ k ∧ k ≤ 16
    · have HO : Hid (okSet i k = true) := decide_eq_true ⟨hi, hk⟩
      have HS : Hid (setS f i k = fun j => if j = i.toNat then k else f j) := if_pos HO.out
      have hb := decide_eq_true hi
      have hb2 := decide_eq_true hk
      obtain ⟨i0, i1⟩ := hi
      obtain ⟨k0, k1⟩ := hk
      obtain ⟨q, rfl⟩ := Int.eq_ofNat_of_zero_le i0
      have hc := h.cell (i := q) (by omega)
      have hf := h.frozen q
      have HP := Lib.hid (h.put q k k0 k1)
      rw [Int.toNat_natCast] at HS
      have hlt := h.lt
      clear h
      go_enter Tryd.func20, Tryd.ntmps20
      go_wp2_with (first | (go_at_call 24; refine (chunk_has _ _).mono ?_; rintro e w1 ⟨rfl, rfl⟩) | (go_at_call 25; refine (chunk_may _ _).mono ?_; rintro e w1 ⟨rfl, rfl⟩))
      go_ret
      refine ⟨ret_bool HO.out.symm, ?_, (Kp.refl _ _).setCell (p := ⟨b, q, none⟩) (.inl (by simp)) _⟩
      rw [HS.out]
      exact HP.out
    · have HO : Hid (okSet i k = false) := decide_eq_false (fun h => hk h.2)
      have HS : Hid (setS f i k = f) := by
        show _ = _
        rw [setS, HO.out]
        rfl
      have hb := decide_eq_true hi
      have hb2 := decide_eq_false hk
      clear hk
      obtain ⟨i0, i1⟩ := hi
      have HH := Lib.hid h
      clear h
      go_enter Tryd.func20, Tryd.ntmps20
      go_wp2_with (first | (go_at_call 24; refine (chunk_has _ _).mono ?_; rintro e w1 ⟨rfl, rfl⟩) | (go_at_call 25; refine (chunk_may _ _).mono ?_; rintro e w1 ⟨rfl, rfl⟩))
      go_ret
      refine ⟨ret_bool HO.out.symm, ?_, Kp.refl _ _⟩
      rw [HS.out]
      exact HH.out
  · have HO : Hid (okSet i k = false) := decide_eq_false (fun h => hi h.1)
    have HS : Hid (setS f i k = f) := by
      show _ = _
      rw [setS, HO.out]
      rfl
    have hb := decide_eq_false hi
    clear hi
    have HH := Lib.hid h
    clear h
    go_enter Tryd.func20, Tryd.ntmps20
    go_wp2_with (first | (go_at_call 24; refine (chunk_has _ _).mono ?_; rintro e w1 ⟨rfl, rfl⟩) | (go_at_call 25; refine (chunk_may _ _).mono ?_; rintro e w1 ⟨rfl, rfl⟩))
    go_ret
    refine ⟨ret_bool HO.out.symm, ?_, Kp.refl _ _⟩
    rw [HS.out]
    exact HH.out
end Go.Proofs.YtmliknefakoplaaDoor
