/- The reference's May: what is wrong with bytes? -/
import Derived.Test.YtnppdhaphnemfaaChkFrom
namespace Go.Proofs.Ytnppdhaphnemfaa
open Go.RowKit
set_option linter.unusedVariables false
set_option linter.unusedSimpArgs false

set_option maxRecDepth 20000 in
set_option maxHeartbeats 1000000 in
theorem ref_May (A : Option Addr) (n c B : Nat) (xs : List Int) (w : World) (hl : xs.length = n) (hr : Rd w B A (ints .u8 xs)) (hn : (n : Int) ≤ 140737488355328) (hx : ∀ x ∈ xs, 0 ≤ x ∧ x < 256) :
    Calls Try.prog 21 #[.slice A n c] w fun e w' => e = .returned (.int .i64 (mayS xs)) ∧ w = w' := by
  rcases Nat.lt_trichotomy n 32768 with h | h | h
  · have HM := Lib.hid (mayS_short (xs := xs) (by omega))
    have hi : (n : Int) < 32768 := by omega
    clear h hl hx hr
    go_enter Try.func21, Try.ntmps21
    go_wp2
    go_ret
    exact ⟨ret_int HM.out.symm, rfl⟩
  · subst h
    have HX := Lib.hid hx
    have HL := Lib.hid hl
    have HZ : Hid (mx xs 32768 ≤ 16 ↔ ∀ i, i < 32768 → xs.getD i 0 ≤ 16) := mx_le xs 16 (by omega) 32768 (by omega)
    have HK : Hid (mx xs 32768 > 16 → mayS xs = 10) := fun h => mayS_kind hl h
    have HO : Hid (¬ mx xs 32768 > 16 → mayS xs = 0) := fun h => mayS_ok hl h
    clear hl hx
    go_enter Try.func21, Try.ntmps21
    go_wp2
    go_loop [3] (fun i => ∃ k : Nat, i = .int .i64 k ∧ (k : Int) ≤ 32768 ∧ Hid (∀ j, j < k → xs.getD j 0 ≤ 16)) (fun i => (32768 - intOf i).toNat)
    case atStart => exact ⟨0, rfl, by omega, fun j hj => absurd hj (Nat.not_lt_zero _)⟩
    case round =>
      obtain ⟨k, rfl, hk, HJ⟩ := hrel
      by_cases hlt : (k : Int) < 32768
      · obtain ⟨a, rfl, hc⟩ := hr.int (j := k) (by rw [HL.out]; omega)
        obtain ⟨x0, x1⟩ := HX.out (xs.getD k 0) (by
          rw [List.getD_eq_getElem?_getD, List.getElem?_eq_getElem (by rw [HL.out]; omega)]
          exact List.getElem_mem _)
        obtain ⟨x, hxe⟩ : ∃ x, xs.getD k 0 = x := ⟨_, rfl⟩
        rw [hxe] at hc x0 x1
        have HE := Lib.hid hxe
        clear hxe
        by_cases hg : x > 16
        · go_wp2
          go_ret
          refine ⟨ret_int (HK.out ?_).symm, rfl⟩
          rcases Int.lt_or_le 16 (mx xs 32768) with h1 | h1
          · exact h1
          · have := HZ.out.1 h1 k (by omega)
            rw [HE.out] at this
            omega
        · go_wp2
          all_goals
            go_round
            case rel =>
              refine ⟨k + 1, by go_num, by omega, fun j hj => ?_⟩
              rcases Nat.lt_or_ge j k with h1 | h1
              · exact HJ.out j h1
              · obtain rfl : j = k := by omega
                rw [HE.out]
                omega
            case measure => simp [intOf] <;> omega
      · have hne : k = 32768 := by omega
        subst hne
        go_wp2
        go_ret
        exact ⟨ret_int (HO.out (by have := HZ.out.2 HJ.out; omega)).symm, rfl⟩
  · have HM := Lib.hid (mayS_long (xs := xs) (by omega))
    have d1 : decide ((n : Int) < 32768) = false := decide_eq_false (by omega)
    have d2 : decide ((32768 : Int) < n) = true := decide_eq_true (by omega)
    clear h hl hx hr
    go_enter Try.func21, Try.ntmps21
    go_wp2
    go_ret
    exact ⟨ret_int HM.out.symm, rfl⟩
end Go.Proofs.Ytnppdhaphnemfaa
