/- StrataDeep: deep below the ground all is stone; above it nothing hangs on the band. -/
import Derived.Test.YtmliknefakoplaaDoorAwake14
namespace Go.Proofs.YtmliknefakoplaaDoor
open Go.RowKit
set_option linter.unusedVariables false
set_option linter.unusedSimpArgs false

theorem deep_law {h one two y : Int} (h0 : 0 ≤ h) (h1 : h < 128) (o0 : 0 ≤ one) (o1 : one < 4) (t0 : 0 ≤ two) (t1 : two < 4) (y0 : 0 ≤ y) (y1 : y < 128) :
    ((h < y ∨ y < h - 3) → atS h one y = atS h two y ∧ (h < y ∨ y = 0 ∨ atS h one y = 1)) ∧ (¬ (h < y ∨ y < h - 3) → atS h one y ≠ 0 ∧ atS h one y ≠ 5) := by
  unfold atS
  constructor
  · intro hc
    (repeat' split) <;> omega
  · intro hc
    (repeat' split) <;> omega

set_option maxRecDepth 20000 in
set_option maxHeartbeats 2000000 in
theorem StrataDeep_walk (w : World) (hs : Soils w) (h : Int) (hh : I64 h) (one : Int) (ho : I64 one) (two : Int) (ht : I64 two) (y : Int) (hy : I64 y) :
    Calls Tryd.prog 4 #[.int .i64 h, .int .i64 one, .int .i64 two, .int .i64 y] w fun e w' => e = .returned (.bool true) ∧ Kp [] w w' := by
  by_cases hin : 0 ≤ h ∧ h < 128 ∧ 0 ≤ one ∧ one < 4 ∧ 0 ≤ two ∧ two < 4 ∧ 0 ≤ y ∧ y < 128
  · obtain ⟨h0, h1, o0, o1, t0, t1, y0, y1⟩ := hin
    have hl := deep_law h0 h1 o0 o1 t0 t1 y0 y1
    have H1 := Lib.hid (strata_At h one y)
    have H2 := Lib.hid (strata_At h two y)
    generalize atS h one y = a at *
    generalize atS h two y = b at *
    clear hh ho ht hy
    by_cases hc : h < y ∨ y < h - 3
    · obtain ⟨rfl, l2⟩ := hl.1 hc
      have hcc : (y ≤ h → y < h - 3) := by omega
      by_cases hhy : h < y
      · clear hl l2 hc hcc
        go_enter Tryd.func4, Tryd.ntmps4
        go_wp2_with (first | (go_at_call 7; refine (awake _ hs).mono ?_; rintro e w1 ⟨rfl, k1⟩; have t1' : True := trivial) | (go_at_call 8; have t2' := t1'; refine (H1.out _ (hs.kp k1)).mono ?_; rintro e w2 ⟨rfl, k2⟩; clear t1'; have k12 := k1.then k2) | (go_at_call 8; refine (H2.out _ (hs.kp k12)).mono ?_; rintro e w3 ⟨rfl, k3⟩))
        go_ret
        exact ⟨rfl, k12.then k3⟩
      · have h3 : y < h - 3 := by omega
        by_cases hy0 : y = 0
        · have hyb : (y == 0) = true := beq_iff_eq.2 hy0
          have HY := Lib.hid hy0
          clear hl l2 hc hcc hy0
          go_enter Tryd.func4, Tryd.ntmps4
          go_wp2_with (first | (go_at_call 7; refine (awake _ hs).mono ?_; rintro e w1 ⟨rfl, k1⟩; have t1' : True := trivial) | (go_at_call 8; have t2' := t1'; refine (H1.out _ (hs.kp k1)).mono ?_; rintro e w2 ⟨rfl, k2⟩; clear t1'; have k12 := k1.then k2) | (go_at_call 8; refine (H2.out _ (hs.kp k12)).mono ?_; rintro e w3 ⟨rfl, k3⟩))
          all_goals
            go_ret
            exact ⟨rfl, k12.then k3⟩
        · have hyb : (y == 0) = false := beq_eq_false_iff_ne.2 hy0
          obtain rfl : a = 1 := by omega
          clear hl l2 hc hcc hy0
          go_enter Tryd.func4, Tryd.ntmps4
          go_wp2_with (first | (go_at_call 7; refine (awake _ hs).mono ?_; rintro e w1 ⟨rfl, k1⟩; have t1' : True := trivial) | (go_at_call 8; have t2' := t1'; refine (H1.out _ (hs.kp k1)).mono ?_; rintro e w2 ⟨rfl, k2⟩; clear t1'; have k12 := k1.then k2) | (go_at_call 8; refine (H2.out _ (hs.kp k12)).mono ?_; rintro e w3 ⟨rfl, k3⟩))
          all_goals
            go_ret
            exact ⟨rfl, k12.then k3⟩
    · obtain ⟨l1, l2⟩ := hl.2 hc
      have b1 : (a != 0) = true := bne_iff_ne.2 l1
      have b2 : (a != 5) = true := bne_iff_ne.2 l2
      have c1 : y ≤ h := by omega
      have c2 : h - 3 ≤ y := by omega
      clear hl l1 l2 hc
      go_enter Tryd.func4, Tryd.ntmps4
      go_wp2_with (first | (go_at_call 7; refine (awake _ hs).mono ?_; rintro e w1 ⟨rfl, k1⟩; have t1' : True := trivial) | (go_at_call 8; have t2' := t1'; refine (H1.out _ (hs.kp k1)).mono ?_; rintro e w2 ⟨rfl, k2⟩; clear t1'; have k12 := k1.then k2) | (go_at_call 8; refine (H2.out _ (hs.kp k12)).mono ?_; rintro e w3 ⟨rfl, k3⟩))
      all_goals
        go_ret
        exact ⟨rfl, k12.then k3⟩
  · have h1 : h < 0 ∨ 128 ≤ h ∨ one < 0 ∨ 4 ≤ one ∨ two < 0 ∨ 4 ≤ two ∨ y < 0 ∨ 128 ≤ y := by omega
    clear hin hh ho ht hy
    rcases h1 with h1 | h1 | h1 | h1 | h1 | h1 | h1 | h1
    all_goals
      go_enter Tryd.func4, Tryd.ntmps4
      go_wp2_with (first | (go_at_call 7; refine (awake _ hs).mono ?_; rintro e w1 ⟨rfl, k1⟩))
      all_goals
        go_ret
        exact ⟨rfl, k1⟩
end Go.Proofs.YtmliknefakoplaaDoor
