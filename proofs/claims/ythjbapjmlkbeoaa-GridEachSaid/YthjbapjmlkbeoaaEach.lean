/- The iterator grid.Each: all cells of a box, or as many as a round lets come. -/
import Derived.RangeFuncNested
import Derived.RangeFuncBound
import Derived.RangeFuncCalls
import Derived.RangeFuncLeaves
import Derived.Shelf.Abstract
import Derived.Shelf.RegionOpen
import Derived.WalkKit
import Derived.OwnWalkIn
import Derived.TacticsInMore
import Derived.LoopNIn
import Derived.LoopIn
import Derived.WalkMore
import Derived.Test.YthjbapjmlkbeoaaGridCount
import Derived.Test.YthjbapjmlkbeoaaBoxed
namespace Go.Proofs.Ythjbapjmlkbeoaa
open Go.RowKit Go.Shelf
set_option linter.unusedVariables false
set_option linter.unusedSimpArgs false

attribute [local go_sem] Oper.semAt_some

/-- How long a side is. -/
def lenS (a b : Int) : Nat := (b - a + 1).toNat
/-- The cell at place j of a box's order. -/
def eachX (ax bx : Int) (j : Nat) : Int := ax + ((j % lenS ax bx : Nat) : Int)
def eachZ (ax bx az bz : Int) (j : Nat) : Int := az + ((j / lenS ax bx % lenS az bz : Nat) : Int)
def eachY (ax bx az bz ay : Int) (j : Nat) : Int := ay + ((j / lenS ax bx / lenS az bz : Nat) : Int)
def eachN (ax ay az bx by' bz : Int) : Nat := if countS ax ay az bx by' bz = 0 then 0 else lenS ay by' * lenS az bz * lenS ax bx
def posV (x y z : Int) : Value := .agg #[.int .i64 x, .int .i64 y, .int .i64 z]

theorem place_x {sx b c : Nat} (hc : c < sx) : (b * sx + c) % sx = c := by
  rw [Nat.add_comm, Nat.add_mul_mod_self_right, Nat.mod_eq_of_lt hc]
theorem place_z {sx b c : Nat} (hc : c < sx) : (b * sx + c) / sx = b := by
  rw [Nat.add_comm, Nat.add_mul_div_right _ _ (by omega), Nat.div_eq_of_lt hc, Nat.zero_add]

/-- The block of the box is as it was. -/
def SameBlk (Bn : Nat) (W W' : World) : Prop := W'.heap[Bn]? = W.heap[Bn]?
theorem SameBlk.trans {Bn : Nat} {A B C : World} (h : SameBlk Bn A B) (k : SameBlk Bn B C) : SameBlk Bn A C := Eq.trans k h
theorem SameBlk.put {Bn n : Nat} (h : Bn < n) (W : World) (l : Nat) (o o' : Obj) (hl : n ≤ l) (_ : W.heap[l]? = some o) (_ : o.isCells = false) (_ : o.isWalk = false) : SameBlk Bn W (W.putObj l o') := by
  unfold SameBlk World.putObj
  simp [Array.getElem?_setIfInBounds]
  omega

abbrev boxB (w : World) (Bn : Nat) (ax ay az bx by' bz : Int) : Prop := Bk w Bn 33 #[.int .i64 ax, .int .i64 ay, .int .i64 az, .int .i64 bx, .int .i64 by', .int .i64 bz]

set_option maxRecDepth 100000 in
set_option maxHeartbeats 4000000 in
theorem each_in (n : Nat) (hn : 1 ≤ n) (l Bn : Nat) (ax ay az bx by' bz : Int) (J Jx : List Nat → World → Prop) (W : World) (hJ : AbidesFrom W.heap.size J)
    (hY : ∀ x W, J (List.range x) W → x < eachN ax ay az bx by' bz → YieldAt Fence.wide (n - 1) Try.prog l #[posV (eachX ax bx x) (eachY ax bx az bz ay x) (eachZ ax bx az bz x)] W fun e W' =>
      (e = .returned (.bool true) ∧ J (List.range (x + 1)) W' ∧ SameBlk Bn W W') ∨ (e = .returned (.bool false) ∧ Jx (List.range (x + 1)) W'))
    (hB : boxB W Bn ax ay az bx by' bz) (h0 : J [] W) :
    CallsIn Fence.wide n Try.prog 33 #[.func (.yield l) #[] #[], .pointer (some ⟨Bn, 0, none⟩)] W fun e W' => (∃ v, e = .returned v) ∧
      ((∃ ys, ys = List.range (eachN ax ay az bx by' bz) ∧ J ys W') ∨ (∃ pre, (∃ k, k ≤ eachN ax ay az bx by' bz ∧ pre = List.range k) ∧ Jx pre W')) := by
  have HB := Lib.hid hB
  have b0 := hB.cell 0
  have b1 := hB.cell 1
  have b2 := hB.cell 2
  have b3 := hB.cell 3
  have b4 := hB.cell 4
  have b5 := hB.cell 5
  simp at b0 b1 b2 b3 b4 b5
  have HC := Lib.hid (grid_Count ax ay az bx by' bz)
  unfold boxV at HC
  have HY := Lib.hid hY
  clear hY hB
  by_cases hz : countS ax ay az bx by' bz = 0
  · have HN : Hid (eachN ax ay az bx by' bz = 0) := if_pos hz
    have HZ := Lib.hid hz
    clear hz
    refine callsIn_of_wp Try.func33 rfl trivial ?_ rfl
    simp only [Try.ntmps33, List.size_toArray, List.length_cons, List.length_nil, Nat.reduceAdd, Nat.reduceSub, Array.replicate_succ, Array.replicate_zero, List.push_toArray, List.append_toArray, List.nil_append, List.cons_append]
    refine wpIn_wide.2 (wp_scope_straight ((wpIn_wide (n := n)).1 ?_))
    gi_wp2_with fail
    refine ⟨trivial, (callsIn_wide.2 (HC.out _)).mono ?_⟩
    rintro e w1 ⟨rfl, hk1⟩
    rw [HZ.out]
    gi_wp2_with fail
    rw [Exit.noGoto_ret]
    refine bodyPost_ret (results_none rfl _ _ _) rfl ?_
    refine ⟨⟨_, rfl⟩, .inl ⟨_, rfl, ?_⟩⟩
    rw [HN.out]
    exact hJ _ _ _ none h0 (hk1.toGrown (fun x hx => by cases hx)) (fun r e => by cases e)
  · have hbad : (badS ax bx || badS ay by' || badS az bz) = false := by
      rw [← Bool.not_eq_true]
      intro h
      exact hz (by rw [countS, h]; rfl)
    simp only [Bool.or_eq_false_iff] at hbad
    have h0x := badS_false.1 hbad.1.1
    have h0y := badS_false.1 hbad.1.2
    have h0z := badS_false.1 hbad.2
    clear hbad
    obtain ⟨hx1, hx2, hx3⟩ := h0x
    obtain ⟨hy1, hy2, hy3⟩ := h0y
    obtain ⟨hz1, hz2, hz3⟩ := h0z
    obtain ⟨sx, hsx⟩ : ∃ sx, lenS ax bx = sx := ⟨_, rfl⟩
    obtain ⟨sy, hsy⟩ : ∃ sy, lenS ay by' = sy := ⟨_, rfl⟩
    obtain ⟨sz, hsz⟩ : ∃ sz, lenS az bz = sz := ⟨_, rfl⟩
    have hNe : eachN ax ay az bx by' bz = sy * sz * sx := by rw [eachN, if_neg hz, hsx, hsy, hsz]
    have HX : Hid (∀ b c, c < sx → eachX ax bx (b * sx + c) = ax + (c : Int)) := by
      show ∀ b c, c < sx → eachX ax bx (b * sx + c) = ax + (c : Int)
      intro b c hc
      rw [eachX, hsx, place_x hc]
    have HZz : Hid (∀ a b c, b < sz → c < sx → eachZ ax bx az bz ((a * sz + b) * sx + c) = az + (b : Int)) := by
      show ∀ a b c, b < sz → c < sx → eachZ ax bx az bz ((a * sz + b) * sx + c) = az + (b : Int)
      intro a b c hb hc
      rw [eachZ, hsx, hsz, place_z hc, place_x hb]
    have HYy : Hid (∀ a b c, b < sz → c < sx → eachY ax bx az bz ay ((a * sz + b) * sx + c) = ay + (a : Int)) := by
      show ∀ a b c, b < sz → c < sx → eachY ax bx az bz ay ((a * sz + b) * sx + c) = ay + (a : Int)
      intro a b c hb hc
      rw [eachY, hsx, hsz, place_z hc, place_z hb]
    have hsx' : (sx : Int) = bx - ax + 1 := by rw [← hsx, lenS]; omega
    have hsy' : (sy : Int) = by' - ay + 1 := by rw [← hsy, lenS]; omega
    have hsz' : (sz : Int) = bz - az + 1 := by rw [← hsz, lenS]; omega
    have HSX := Lib.hid hsx'
    have HSY := Lib.hid hsy'
    have HSZ := Lib.hid hsz'
    have HNe := Lib.hid hNe
    have HZ := Lib.hid hz
    clear hsx hsy hsz hNe hz hsx' hsy' hsz'
    refine callsIn_of_wp Try.func33 rfl trivial ?_ rfl
    simp only [Try.ntmps33, List.size_toArray, List.length_cons, List.length_nil, Nat.reduceAdd, Nat.reduceSub, Array.replicate_succ, Array.replicate_zero, List.push_toArray, List.append_toArray, List.nil_append, List.cons_append]
    refine wpIn_wide.2 (wp_scope_straight ((wpIn_wide (n := n)).1 ?_))
    gi_wp2_with fail
    refine ⟨trivial, (callsIn_wide.2 (HC.out _)).mono ?_⟩
    rintro e w1 ⟨rfl, hk1⟩
    obtain ⟨cn, hcn⟩ : ∃ cn, countS ax ay az bx by' bz = cn := ⟨_, rfl⟩
    have hc0 : (cn == 0) = false := by have := HZ.out; rw [hcn] at this; simpa using this
    rw [hcn]
    have HJ1 : Hid (J [] w1) := hJ _ _ _ none h0 (hk1.toGrown (fun x hx => by cases hx)) (fun r e => by cases e)
    have HB1 : Hid (boxB w1 Bn ax ay az bx by' bz) := HB.out.kp hk1 (by simp)
    have b0 := HB1.out.cell 0
    have b1 := HB1.out.cell 1
    have b2 := HB1.out.cell 2
    have b3 := HB1.out.cell 3
    have b4 := HB1.out.cell 4
    have b5 := HB1.out.cell 5
    simp at b0 b1 b2 b3 b4 b5
    clear hcn hk1 h0
    gi_wp2_with fail
    refine wpIn_label ?_
    gi_wp2_with fail
    clear b0 b1 b2 b3 b4 b5
    gi_loopw [3] (fun y wr => ∃ a : Nat, y = .int .i64 (ay + (a : Int)) ∧ a ≤ sy ∧ Hid (J (List.range (a * sz * sx)) wr) ∧ Hid (boxB wr Bn ax ay az bx by' bz)) (fun y _ => (by' + 1 - intOf y).toNat)
    case atStart => exact ⟨0, by simp, by omega, by show J _ _; simpa using HJ1.out, HB1⟩
    case round =>
      obtain ⟨a, rfl, ha, HJr, HBr⟩ := hrel
      have b0 := HBr.out.cell 0
      have b1 := HBr.out.cell 1
      have b2 := HBr.out.cell 2
      have b3 := HBr.out.cell 3
      have b4 := HBr.out.cell 4
      have b5 := HBr.out.cell 5
      simp at b0 b1 b2 b3 b4 b5
      have hsy := HSY.out
      by_cases hlt : a < sy
      · have hle : ay + (a : Int) ≤ by' := by omega
        clear ha hsy
        have HA := Lib.hid hlt
        have HLE := Lib.hid hle
        gi_wp2_with fail
        clear hle hlt b0 b1 b2 b3 b4 b5
        gi_loopw [4] (fun z wr => ∃ b : Nat, z = .int .i64 (az + (b : Int)) ∧ b ≤ sz ∧ Hid (J (List.range ((a * sz + b) * sx)) wr) ∧ Hid (boxB wr Bn ax ay az bx by' bz)) (fun z _ => (bz + 1 - intOf z).toNat)
        case atStart => exact ⟨0, by simp, by omega, by show J _ _; simpa using HJr.out, HBr⟩
        case round =>
          clear HBr HJr
          obtain ⟨b, rfl, hb, HJr, HBr⟩ := hrel
          have b0 := HBr.out.cell 0
          have b1 := HBr.out.cell 1
          have b2 := HBr.out.cell 2
          have b3 := HBr.out.cell 3
          have b4 := HBr.out.cell 4
          have b5 := HBr.out.cell 5
          simp at b0 b1 b2 b3 b4 b5
          have hsz := HSZ.out
          by_cases hlt2 : b < sz
          · have hle : az + (b : Int) ≤ bz := by omega
            clear hb hsz
            have HBb := Lib.hid hlt2
            have HLE2 := Lib.hid hle
            gi_wp2_with fail
            clear hle hlt2 b0 b1 b2 b3 b4 b5
            gi_loopw [5] (fun x wr => ∃ c : Nat, x = .int .i64 (ax + (c : Int)) ∧ c ≤ sx ∧ Hid (J (List.range ((a * sz + b) * sx + c)) wr) ∧ Hid (boxB wr Bn ax ay az bx by' bz)) (fun x _ => (bx + 1 - intOf x).toNat)
            case atStart => exact ⟨0, by simp, by omega, by show J _ _; simpa using HJr.out, HBr⟩
            case round =>
              clear HBr HJr
              obtain ⟨c, rfl, hc, HJr, HBr⟩ := hrel
              have b0 := HBr.out.cell 0
              have b1 := HBr.out.cell 1
              have b2 := HBr.out.cell 2
              have b3 := HBr.out.cell 3
              have b4 := HBr.out.cell 4
              have b5 := HBr.out.cell 5
              simp at b0 b1 b2 b3 b4 b5
              have hsx := HSX.out
              by_cases hlt3 : c < sx
              · have hle3 : ax + (c : Int) ≤ bx := by omega
                have hlen : (a * sz + b) * sx + c < eachN ax ay az bx by' bz := by
                  rw [HNe.out]
                  have h1 : a * sz + b < sy * sz := by
                    have h2 : (a + 1) * sz ≤ sy * sz := Nat.mul_le_mul_right _ HA.out
                    have h3 := HBb.out
                    rw [Nat.add_mul] at h2
                    omega
                  have h4 : (a * sz + b + 1) * sx ≤ sy * sz * sx := Nat.mul_le_mul_right _ h1
                  rw [Nat.add_mul] at h4
                  omega
                have hyy := HY.out ((a * sz + b) * sx + c) wr HJr.out hlen
                rw [HX.out _ _ hlt3, HYy.out _ _ _ HBb.out hlt3, HZz.out _ _ _ HBb.out hlt3] at hyy
                unfold posV at hyy
                have hlen2 : ((a * sz + b) * sx + c).succ ≤ eachN ax ay az bx by' bz := hlen
                have HLE3 := Lib.hid hle3
                clear hc hsx hlen
                have HC3 := Lib.hid hlt3
                obtain ⟨fn, tmps, assign, body, hy, hR⟩ := hyy
                gi_wp2_with fail
                refine hR.mono ?_
                clear hR hy
                rintro e W3 (⟨rfl, hJ3, hk3⟩ | ⟨rfl, hJx3⟩)
                · have HB3 : Hid (boxB W3 Bn ax ay az bx by' bz) := Eq.trans hk3 HBr.out
                  have HJ3 := Lib.hid hJ3
                  clear hJ3 hk3 b0 b1 b2 b3 b4 b5 hlt3 HBr HJr
                  gi_wp2_with fail
                  go_roundw
                  case rel => exact ⟨c + 1, by rw [Value.int.injEq]; exact ⟨rfl, by omega⟩, HC3.out, HJ3, HB3⟩
                  case measure => simp [intOf]; omega
                · have HJx3 : Hid (∃ pre, (∃ k, k ≤ eachN ax ay az bx by' bz ∧ pre = List.range k) ∧ Jx pre W3) := ⟨_, ⟨_, hlen2, rfl⟩, hJx3⟩
                  clear hJx3
                  gi_wp2_with fail
                  rw [Exit.noGoto_normal]
                  go_end0
                  exact ⟨⟨_, rfl⟩, .inr HJx3.out⟩
              · have hge : bx < ax + (c : Int) := by omega
                have hcs : c = sx := by omega
                subst hcs
                have hge2 : decide (ax + (c : Int) ≤ bx) = false := by simpa using hge
                have HJ4 : Hid (J (List.range ((a * sz + (b + 1)) * c)) wr) := by
                  have := HJr.out
                  rwa [show (a * sz + b) * c + c = (a * sz + (b + 1)) * c by rw [← Nat.add_assoc, Nat.add_mul (a * sz + b) 1, Nat.one_mul]] at this
                have hle5 := HLE2.out
                clear hc hsx hlt3
                gi_wp2_with fail
                go_roundw
                case rel => exact ⟨b + 1, by rw [Value.int.injEq]; exact ⟨rfl, by omega⟩, HBb.out, HJ4, HBr⟩
                case measure => simp [intOf]; omega
          · have hge : bz < az + (b : Int) := by omega
            have hcs : b = sz := by omega
            subst hcs
            have hge2 : decide (az + (b : Int) ≤ bz) = false := by simpa using hge
            have HJ4 : Hid (J (List.range ((a + 1) * b * sx)) wr) := by
              have := HJr.out
              rwa [show a * b + b = (a + 1) * b by rw [Nat.add_mul, Nat.one_mul]] at this
            have hle5 := HLE.out
            clear hb hsz hlt2
            gi_wp2_with fail
            go_roundw
            case rel => exact ⟨a + 1, by rw [Value.int.injEq]; exact ⟨rfl, by omega⟩, HA.out, HJ4, HBr⟩
            case measure => simp [intOf]; omega
      · have hge : by' < ay + (a : Int) := by omega
        have hcs : a = sy := by omega
        subst hcs
        have hge2 : decide (ay + (a : Int) ≤ by') = false := by simpa using hge
        have HJ4 : Hid (J (List.range (eachN ax ay az bx by' bz)) wr) := by
          show J _ _
          rw [HNe.out]
          exact HJr.out
        clear ha hsy hlt
        gi_wp2_with fail
        rw [Exit.noGoto_normal]
        go_end0
        exact ⟨⟨_, rfl⟩, .inl ⟨_, rfl, HJ4.out⟩⟩

/-- grid.Each: the box lies in a block of its own; the function value holds it. -/
theorem each_made (n : Nat) (ax ay az bx by' bz : Int) (w : World) :
    CallsIn Fence.wide n Try.prog 21 #[boxV ax ay az bx by' bz] w fun e w' => e = .returned (.func (.func 33) #[] #[.pointer (some ⟨w.heap.size, 0, none⟩)]) ∧
      w' = w.alloc (.cells #[.int .i64 ax, .int .i64 ay, .int .i64 az, .int .i64 bx, .int .i64 by', .int .i64 bz] 33) := by
  unfold boxV
  refine callsIn_of_wp Try.func21 rfl trivial ?_ rfl
  simp only [Try.ntmps21, List.size_toArray, List.length_cons, List.length_nil, Nat.reduceAdd, Nat.reduceSub, Array.replicate_succ, Array.replicate_zero, List.push_toArray, List.append_toArray, List.nil_append, List.cons_append]
  gi_wp2
  go_ret
  exact ⟨rfl, rfl⟩

/-- The function value's contract: every place of the box, by its order, or as many as a round lets come. -/
theorem each_stops (n : Nat) (hn : 1 ≤ n) (Bn : Nat) (ax ay az bx by' bz : Int) (w : World) (hBn : Bn < w.heap.size) (hB : boxB w Bn ax ay az bx by' bz) :
    SeqStopsK Fence.wide n Try.prog 33 #[.pointer (some ⟨Bn, 0, none⟩)] (fun x : Nat => #[posV (eachX ax bx x) (eachY ax bx az bz ay x) (eachZ ax bx az bz x)]) (SameBlk Bn)
      (fun ys => ys = List.range (eachN ax ay az bx by' bz)) (fun pre => ∃ k, k ≤ eachN ax ay az bx by' bz ∧ pre = List.range k) (eachN ax ay az bx by' bz) w := fun l J Jx W hW hJ _ hY h0 =>
  each_in n hn l Bn ax ay az bx by' bz J Jx W hJ (fun x W1 hj hx => by
    have h := hY (List.range x) x W1 hj (by rw [List.length_range]; exact hx)
    rwa [← List.range_succ] at h) (Eq.trans (hW.block Bn hBn) hB) h0

theorem finRange_take {N x : Nat} (hx : x < N) : (List.finRange N).take x ++ [⟨x, hx⟩] = (List.finRange N).take (x + 1) := by
  rw [List.take_succ_eq_append_getElem (by simpa using hx)]
  simp
/-- The same, each place known to lie in the box. -/
theorem each_stopsF (n : Nat) (hn : 1 ≤ n) (Bn : Nat) (ax ay az bx by' bz : Int) (w : World) (hBn : Bn < w.heap.size) (hB : boxB w Bn ax ay az bx by' bz) :
    SeqStopsK Fence.wide n Try.prog 33 #[.pointer (some ⟨Bn, 0, none⟩)] (fun x : Fin (eachN ax ay az bx by' bz) => #[posV (eachX ax bx x.val) (eachY ax bx az bz ay x.val) (eachZ ax bx az bz x.val)]) (SameBlk Bn)
      (fun ys => ys = List.finRange (eachN ax ay az bx by' bz)) (fun pre => ∃ k, k ≤ eachN ax ay az bx by' bz ∧ pre = (List.finRange (eachN ax ay az bx by' bz)).take k) (eachN ax ay az bx by' bz) w := fun l J Jx W hW hJ _ hY h0 =>
  (each_in n hn l Bn ax ay az bx by' bz (fun pre => J ((List.finRange (eachN ax ay az bx by' bz)).take pre.length)) (fun pre => Jx ((List.finRange (eachN ax ay az bx by' bz)).take pre.length)) W (fun s A B row hs hg hr => hJ _ A B row hs hg hr) (fun x W1 hj hx => by
    rw [List.length_range] at hj
    have h := hY _ ⟨x, hx⟩ W1 hj (by rw [List.length_take, List.length_finRange]; omega)
    rw [finRange_take hx] at h
    rw [List.length_range]
    exact h) (Eq.trans (hW.block Bn hBn) hB) h0).mono fun e W' h => ⟨h.1, h.2.imp
      (fun ⟨ys, hys, hj⟩ => ⟨_, rfl, by rw [hys, List.length_range, List.take_of_length_le (by simp)] at hj; exact hj⟩)
      (fun ⟨pre, ⟨k, hk, hpre⟩, hj⟩ => ⟨_, ⟨k, hk, rfl⟩, by rw [hpre, List.length_range] at hj; exact hj⟩)⟩
end Go.Proofs.Ythjbapjmlkbeoaa
