/- NumRows: numbers that were put one behind the other are read one by one. -/
import Derived.Test.YthailfjdkphinaaAwake01
import Derived.Test.YthailfjdkphinaaDigGet
import Derived.Test.YthailfjdkphinaaSum
import Derived.Test.YthailfjdkphinaaLawGets
namespace Go.Proofs.Ythailfjdkphinaa
open Go.RowKit
set_option linter.unusedVariables false
set_option linter.unusedSimpArgs false

def cat (l : List Int) : List Int := l.flatMap digs
theorem cat_snoc (l : List Int) (x : Int) : cat (l ++ [x]) = cat l ++ digs x := by simp [cat]
theorem cat_cons (l : List Int) (x : Int) : cat (x :: l) = digs x ++ cat l := by simp [cat]
theorem cat_len (l : List Int) (h : ∀ x ∈ l, I64 x) : (cat l).length ≤ 9 * l.length := by
  induction l with
  | nil => simp [cat]
  | cons x r ih =>
    have h1 := ih (fun y hy => h y (by simp [hy]))
    have h2 := digs_len (h x (by simp))
    rw [cat_cons, List.length_append, List.length_cons]
    omega
theorem cat_u8 (l : List Int) : ∀ x ∈ cat l, 0 ≤ x ∧ x < 256 := by
  intro x hx
  simp only [cat, List.mem_flatMap] at hx
  obtain ⟨y, _, hy⟩ := hx
  exact digs_u8 y x hy

theorem IntSl.i64 {w : World} {b : Nat} {A : Option Addr} {n c : Nat} {xs : List Int} (h : IntSl w .i64 b A n c xs) : ∀ x ∈ xs, I64 x := fun x hx => I64.of_wf (h.wf x hx)

theorem Rd.cut {w : World} {B : Nat} {A : Option Addr} {xs : List Value} (h : Rd w B A xs) (k : Nat) : Rd w B (A.map (·.add k)) (xs.drop k) := fun j u hu => by
  rw [List.getElem?_drop] at hu
  obtain ⟨a, rfl, hb, hc⟩ := h (k + j) u hu
  refine ⟨_, rfl, by rw [add_block]; exact hb, ?_⟩
  have : (a.add k).add j = a.add (k + j) := by
    unfold Addr.add
    by_cases h1 : k = 0 <;> by_cases h2 : j = 0 <;> simp [h1, h2, Nat.add_assoc]
  rw [this]
  exact hc

set_option maxRecDepth 20000 in
set_option maxHeartbeats 4000000 in
theorem NumRows_walk (w : World) (A : Option Addr) (n c : Nat) (xs : List Int) (h : IntSl w .i64 8 A n c xs) :
    Calls Try.prog 9 #[.slice A n c] w fun e w' => e = .returned (.bool true) ∧ Kp [] w w' := by
  have hr := h.rd
  have HL := Lib.hid h.len
  have HI := Lib.hid h.i64
  clear h
  by_cases hn : n ≤ 1000
  · go_enter Try.func9, Try.ntmps9
    go_wp2_with (first | (go_at_call 11; refine (awake _).mono ?_; rintro e w1 ⟨rfl, hk1⟩))
    go_loopw [4, 5] (fun v i wr => ∃ k : Nat, i = .int .i64 k ∧ k ≤ n ∧ wr.ownsRow w.heap.size 5 1 v (cat (xs.take k)).length (ints .u8 (cat (xs.take k))) ∧ Kp [] w wr) (fun _ i _ => n - (intOf i).toNat)
    case atStart => exact ⟨0, rfl, by omega, World.ownsRow_nil _ _ _ _, hk1⟩
    case round =>
      obtain ⟨k, rfl, hkn, hown, hk⟩ := hrel
      by_cases hlt : k < n
      · have hkx : k < xs.length := by rw [HL.out]; exact hlt
        obtain ⟨a, rfl, hc0⟩ := hr.int (j := k) hkx
        have hc := hk.cell hc0 (by simp)
        have hx : I64 (xs.getD k 0) := HI.out _ (by
          rw [List.getD_eq_getElem?_getD, List.getElem?_eq_getElem hkx]
          exact List.getElem_mem _)
        have HT : Hid (cat (xs.take (k + 1)) = cat (xs.take k) ++ digs (xs.getD k 0)) := by
          show _ = _
          rw [take_next xs k hkx, cat_snoc]
        have hlen := cat_len (xs.take k) (fun x hx => HI.out x (List.mem_of_mem_take hx))
        rw [List.length_take] at hlen
        obtain ⟨A4, c4, rfl, hc4, hA4, hr4⟩ := own_read hown
        have HC := Lib.hid (num_Put A4 (cat (xs.take k)).length c4 wr.heap.size (cat (xs.take k)) (xs.getD k 0) wr hA4 hc4 rfl hr4 (by omega) hx)
        generalize xs.getD k 0 = x at *
        clear hA4 hx hkx
        go_wp2_with (go_at_call 16; refine HC.out.mono ?_; rintro e w2 ⟨v2, rfl, hown2, hk2⟩)
        go_roundw
        case rel =>
          refine ⟨k + 1, by go_num, by omega, ?_, hk.then hk2⟩
          rw [HT.out, List.length_append]
          exact Joins.ownsRow_le hown2 hk.size
        case measure =>
          simp [intOf]
          omega
      · have hke : k = n := by omega
        subst hke
        have HTA : Hid (xs.take k = xs) := by
          show _ = _
          exact List.take_of_length_le (by rw [HL.out]; omega)
        rw [HTA.out] at hown
        have hxl : xs.length = k := HL.out
        have hxn : xs.length ≤ 1000 := by omega
        clear hxl
        obtain ⟨A4, c4, rfl, hc4, hA4, hr4⟩ := own_read hown
        clear hA4 hown hlt
        go_wp2
        go_loop [4, 6] (fun v i => ∃ (q : Nat) (A5 : Option Addr) (m5 c5 : Nat), i = .int .i64 q ∧ v = .slice A5 m5 c5 ∧ q ≤ k ∧ m5 ≤ c5 ∧ Hid ((cat (xs.drop q)).length = m5) ∧ Rd wr wr.heap.size A5 (ints .u8 (cat (xs.drop q)))) (fun _ i => k - (intOf i).toNat)
        case atStart => exact ⟨0, A4, _, c4, rfl, rfl, by omega, hc4, Lib.hid rfl, hr4⟩
        case round =>
          obtain ⟨q, A5, m5, c5, rfl, rfl, hqk, hmc, hm5, hr5⟩ := hrel
          by_cases hlt : q < k
          · have hqx : q < xs.length := by rw [HL.out]; exact hlt
            obtain ⟨a, rfl, hc0⟩ := hr.int (j := q) hqx
            have hc := hk.cell hc0 (by simp)
            have hx : I64 (xs.getD q 0) := HI.out _ (by
              rw [List.getD_eq_getElem?_getD, List.getElem?_eq_getElem hqx]
              exact List.getElem_mem _)
            have hdr : xs.drop q = xs.getD q 0 :: xs.drop (q + 1) := by
              rw [List.drop_eq_getElem_cons hqx, List.getD_eq_getElem?_getD, List.getElem?_eq_getElem hqx]
              rfl
            have HT : Hid (cat (xs.drop q) = digs (xs.getD q 0) ++ cat (xs.drop (q + 1))) := by
              show _ = _
              rw [hdr, cat_cons]
            have hlen := cat_len (xs.drop q) (fun x hx => HI.out x (List.mem_of_mem_drop hx))
            rw [List.length_drop, hm5.out] at hlen
            generalize xs.getD q 0 = x at *
            clear hdr hqx
            by_cases hx0 : x < 0
            · have hd : digs x = [] := if_pos hx0
              have HT2 : Hid (cat (xs.drop q) = cat (xs.drop (q + 1))) := by
                show _ = _
                rw [HT.out, hd, List.nil_append]
              clear hd hx
              go_wp2
              go_round
              case rel => exact ⟨q + 1, A5, m5, c5, by go_num, rfl, by omega, hmc, (by show _ = _; rw [← HT2.out]; exact hm5.out), (by rw [← HT2.out]; exact hr5)⟩
              case measure =>
                simp [intOf]
                omega
            · by_cases hx1 : 2147483647 < x
              · clear hx
                go_wp2
                go_ret
                exact ⟨rfl, hk⟩
              · have hds := digs_short (m := x) (by omega) (by omega)
                have hm5' := hm5.out
                rw [HT.out, List.length_append] at hm5'
                have hdm : (digs x).length ≤ m5 := by omega
                have HG := Lib.hid (num_Get_of A5 m5 c5 _ (digs x ++ cat (xs.drop (q + 1))) x (digs x).length wr (by rw [List.length_append]; exact hm5') (by rw [← HT.out]; exact hr5) (by omega) (by rw [← HT.out]; exact cat_u8 _) (gt_digs x _ (by omega) (by omega)))
                have HCUT := Lib.hid (hr5.cut (digs x).length)
                have HM := Lib.hid hm5'
                obtain ⟨ds1, ds2⟩ := hds
                clear hx hm5'
                generalize hD : (digs x).length = D at *
                have HD := Lib.hid hD
                clear hD
                go_wp2_with (go_at_call 18; refine HG.out.mono ?_; rintro e w2 ⟨rfl, rfl⟩)
                go_round
                case rel =>
                  refine ⟨q + 1, _, m5 - D, c5 - D, by go_num, rfl, by omega, by omega, ?_, ?_⟩
                  · show _ = _
                    have := HM.out
                    omega
                  · have h6 : ((ints .u8 (cat (xs.drop q))).drop D) = ints .u8 (cat (xs.drop (q + 1))) := by
                      rw [HT.out, ints_append, List.drop_left' (by rw [ints_length]; exact HD.out)]
                    have h7 := HCUT.out
                    rw [h6] at h7
                    by_cases hcd : c5 = D
                    · have h8 : (cat (xs.drop (q + 1))) = [] := List.eq_nil_of_length_eq_zero (by
                        have := HM.out
                        omega)
                      rw [h8]
                      exact Rd.nil _ _ _
                    · rw [if_neg hcd]
                      exact h7
                case measure =>
                  simp [intOf]
                  omega
          · have hqe : q = k := by omega
            subst hqe
            have hm0 : m5 = 0 := by
              have := hm5.out
              rw [List.drop_eq_nil_of_le (by rw [HL.out]; omega)] at this
              simpa [cat] using this.symm
            subst hm0
            go_wp2
            go_ret
            exact ⟨rfl, hk⟩
  · go_enter Try.func9, Try.ntmps9
    go_wp2_with (first | (go_at_call 11; refine (awake _).mono ?_; rintro e w1 ⟨rfl, hk1⟩))
    go_ret
    exact ⟨rfl, hk1⟩
end Go.Proofs.Ythailfjdkphinaa
