/- The reference's Top. -/
import Derived.Test.YtnppdhaphnemfaaChkTop
namespace Go.Proofs.Ytnppdhaphnemfaa
open Go.RowKit
set_option linter.unusedVariables false
set_option linter.unusedSimpArgs false

set_option maxRecDepth 20000 in
set_option maxHeartbeats 1000000 in
theorem ref_Top (b : Nat) (f : Nat → Int) (x z : Int) (w : World) (h : Row w b f) :
    Calls Try.prog 18 #[.slice (some ⟨b, 0, none⟩) 32768 32768, .int .i64 x, .int .i64 z] w fun e w' => e = .returned (.int .i64 (topS f x z)) ∧ w = w' := by
  by_cases hi : 0 ≤ x ∧ x < 16 ∧ 0 ≤ z ∧ z < 16
  · have HT : Hid (topS f x z = topFrom f x.toNat z.toNat 128) := if_pos hi
    obtain ⟨x0, x1, z0, z1⟩ := hi
    obtain ⟨p, rfl⟩ := Int.eq_ofNat_of_zero_le x0
    obtain ⟨q, rfl⟩ := Int.eq_ofNat_of_zero_le z0
    rw [Int.toNat_natCast, Int.toNat_natCast] at HT
    go_enter Try.func18, Try.ntmps18
    go_wp2
    go_loop [7] (fun i => ∃ n : Nat, i = .int .i64 ((n : Int) - 1) ∧ n ≤ 128 ∧ Hid (topFrom f p q n = topFrom f p q 128)) (fun i => (intOf i + 1).toNat)
    case atStart => exact ⟨128, by go_num, by omega, Lib.hid rfl⟩
    case round =>
      obtain ⟨n, rfl, hn, ht⟩ := hrel
      cases n with
      | zero =>
        go_wp2
        go_ret
        exact ⟨ret_int (by rw [HT.out, ← ht.out]; rfl), rfl⟩
      | succ m =>
        have hc := h.cell (i := m * 256 + q * 16 + p) (by omega)
        obtain ⟨r0, r1⟩ := h.rng (m * 256 + q * 16 + p) (by omega)
        have HF : Hid (topFrom f p q (m + 1) = if solid (f (m * 256 + q * 16 + p)) then (m : Int) else topFrom f p q m) := rfl
        generalize f (m * 256 + q * 16 + p) = v at *
        rw [show ((m + 1 : Nat) : Int) - 1 = (m : Int) from by omega] at *
        by_cases hs : solid v = true
        · have HTF : Hid (topFrom f p q (m + 1) = (m : Int)) := by
            show _ = _
            rw [HF.out, if_pos hs]
          have hs2 := hs
          unfold solid at hs2
          rw [Bool.and_eq_true] at hs2
          obtain ⟨s1, s2⟩ := hs2
          clear hs HF
          go_wp2
          go_ret
          exact ⟨ret_int (by rw [HT.out, ← ht.out, HTF.out]), rfl⟩
        · have HTF : Hid (topFrom f p q (m + 1) = topFrom f p q m) := by
            show _ = _
            rw [HF.out, if_neg hs]
          have hv : v = 0 ∨ v = 16 := by
            unfold solid at hs
            simp at hs
            omega
          clear hs HF
          rcases hv with rfl | rfl
          all_goals
            go_wp2
            go_round
            case rel => exact ⟨m, by go_num, by omega, (by show _ = _; rw [← HTF.out]; exact ht.out)⟩
            case measure => simp [intOf] <;> omega
  · have HT : Hid (topS f x z = -1) := if_neg hi
    have h1 : x < 0 ∨ 16 ≤ x ∨ z < 0 ∨ 16 ≤ z := by omega
    clear hi h
    rcases h1 with h1 | h1 | h1 | h1
    all_goals
      go_enter Try.func18, Try.ntmps18
      go_wp2
      all_goals
        go_ret
        exact ⟨ret_int HT.out.symm, rfl⟩
end Go.Proofs.Ytnppdhaphnemfaa
