/- NumPuts: a number is put behind bytes alike; the bytes stay as they were. -/
import Derived.Test.YthailfjdkphinaaAwake01
import Derived.Test.YthailfjdkphinaaRefPut
import Derived.Test.YthailfjdkphinaaLawGets
namespace Go.Proofs.Ythailfjdkphinaa
open Go.RowKit
set_option linter.unusedVariables false
set_option linter.unusedSimpArgs false

set_option maxRecDepth 20000 in
set_option maxHeartbeats 2000000 in
theorem NumPuts_walk (w : World) (A : Option Addr) (n c : Nat) (xs : List Int) (h : IntSl w .u8 1 A n c xs) (m : Int) (hm : I64 m) :
    Calls Try.prog 4 #[.slice A n c, .int .i64 m] w fun e w' => e = .returned (.bool true) ∧ Kp [] w w' := by
  have hn : n ≤ 140737488351232 := by have := h.small; omega
  have hdl := digs_len hm
  have H1 := Lib.hid (fun (A : Option Addr) (c B : Nat) (W : World) (hA : A = none → c = 0) (hc : n ≤ c) (hr : Rd W B A (ints .u8 xs)) => num_Put A n c B xs m W hA hc h.len hr hn hm)
  have H2 := Lib.hid (fun (W : World) (hr : Rd W w.heap.size A (ints .u8 xs)) => ref_Put A n c _ xs m W h.len hr hn hm)
  have HL := Lib.hid h.len
  have hr := h.rd
  have hA := Lib.hid h.nil
  have hle := h.le
  generalize digs m = ds at *
  clear h hm
  go_enter Try.func4, Try.ntmps4
  go_wp2_with (first | (go_at_call 11; refine (awake _).mono ?_; rintro e w1 ⟨rfl, hk1⟩) | (at_builtin; refine wpList_append_rd _ rfl (.const (.slice none 0 0)) (.tmp 12) 25 5 rfl w1.heap.size (.int .u8 0) 1 1 Try.underlying25 u8_info rfl (by omega) (.slice none 0 0) 0 [] rfl (World.ownsRow_nil _ _ _ _) A n c w.heap.size (ints .u8 xs) rfl (by rw [ints_length, HL.out, Nat.mul_one]) (hr.kp0 hk1) (ints_one _ _) (by omega) (by omega) (Nat.le_refl _) ?_; intro v2 w2 hown2 hg2 hat2))
  have hk2 : Kp [] w w2 := hk1.own (World.ownsRow_nil w1 w1.heap.size 5 1) hk1.size hg2
  obtain ⟨A2, c2, rfl, hc2, hA2, hr2⟩ := own_read hown2
  simp only [Nat.zero_add, List.nil_append] at hown2 hc2 hr2 ⊢
  have HA2 := Lib.hid hA2
  clear hA2
  refine (H1.out A2 c2 w2.heap.size w2 HA2.out hc2 hr2).mono ?_
  rintro e w3 ⟨v3, rfl, hown3, hk3⟩
  go_wp2_with (go_at_call 17; refine (H2.out w3 (hr.kp0 (hk2.then hk3))).mono ?_; rintro e w4 ⟨v4, rfl, hown4, hk4⟩)
  have hk23 := hk2.then hk3
  have hk24 := hk23.then hk4
  obtain ⟨A3, c3, rfl, hc3, hA3, hr3⟩ := own_read hown3
  obtain ⟨A4, c4, rfl, hc4, hA4, hr4⟩ := own_read hown4
  have hb3 : ∀ x, x ∈ (A3.map (·.block)).toList → w2.heap.size ≤ x ∧ x < w3.heap.size := fun x hx => by
    cases A3 with
    | none => simp at hx
    | some a3 =>
      have : x = a3.block := by simpa using hx
      subst this
      exact hown3.lt _ rfl
  have HB3 := Lib.hid hb3
  have hown3' : w4.ownsRow w2.heap.size 5 1 (.slice A3 (n + ds.length) c3) (n + ds.length) (ints .u8 (xs ++ ds)) := hown3.kept (hk4.toGrown (row := none) (fun x hx => by cases hx)) (by
    by_cases h : (Value.slice A3 (n + ds.length) c3).ownBlock = none
    · exact .inl h
    · exact .inr h)
  have hxl : (xs ++ ds).length = n + ds.length := by rw [List.length_append, HL.out]
  have HXL := Lib.hid hxl
  clear hA3 hA4 hb3 hown3 hxl hr3
  generalize hN : n + ds.length = N at *
  have HN := Lib.hid hN
  have hNs : N ≤ 140737488355328 := by omega
  clear hN
  go_loopw [9] (fun i wr => ∃ (k : Nat) (ys : List Int), i = .int .i64 k ∧ k ≤ N ∧ ys.length = N ∧ wr.ownsRow w2.heap.size 5 1 (.slice A3 N c3) N (ints .u8 ys) ∧ Kp (A3.map (·.block)).toList w4 wr) (fun i _ => N - (intOf i).toNat)
  case atStart => exact ⟨0, xs ++ ds, rfl, by omega, HXL.out, hown3', Kp.refl _ _⟩
  case round =>
    obtain ⟨k, ys, rfl, hkN, hyl, hown, hk⟩ := hrel
    by_cases hlt : k < N
    · obtain ⟨g, cap, hv, hgb, hgl⟩ := hown.form (by omega)
      have hA3 : A3 = some ⟨g, 0, none⟩ := by injection hv
      subst hA3
      have HYL := Lib.hid hyl
      clear hv hyl
      have hcell : wr.cell? ⟨g, k, none⟩ = some (.int .u8 (ys.getD k 0)) := by rw [hown.cellAt k (by omega), ints_get _ _ _ (by rw [HYL.out]; exact hlt)]
      have hfr := hown.frozenAt k
      generalize ys.getD k 0 = b at *
      go_wp2
      go_roundw
      case rel =>
        refine ⟨k + 1, ys.set k ((b + 1) % 256), by go_num, by omega, by rw [List.length_set]; exact HYL.out, ?_, hk.setCell (p := ⟨g, k, none⟩) (.inl (by simp)) _⟩
        have h5 := (hown.stored k (.int .u8 ((b + 1) % 256))).1
        rwa [show (ints .u8 ys).set k (.int .u8 ((b + 1) % 256)) = ints .u8 (ys.set k ((b + 1) % 256)) from by simp [ints]] at h5
      case measure =>
        simp [intOf]
        omega
    · have hr2' : Rd wr w2.heap.size A2 (ints .u8 xs) := (hr2.kp0 (hk3.then hk4)).kp hk (fun x hx => (HB3.out x hx).1)
      have hkr : Kp [] w wr := hk24.trans hk (fun x hx hlt => by
        have := (HB3.out x hx).1
        have := hk2.size
        omega)
      have hrb : Rd wr w.heap.size A (ints .u8 xs) := hr.kp0 hkr
      have hr4' : Rd wr w4.heap.size A4 (ints .u8 (xs ++ ds)) := fun j u hu => by
        obtain ⟨a, ha, hab, hac⟩ := hr4 j u hu
        refine ⟨a, ha, hab, hk.cell hac ?_⟩
        rw [add_block]
        intro hx
        have h1 := (HB3.out _ hx).2
        have h2 := hown4.lt a.block (by rw [ha]; rfl)
        omega
      go_wp2_with fail
      refine (H1.out A2 c2 w2.heap.size wr HA2.out hc2 hr2').mono ?_
      rintro e w6 ⟨v6, rfl, hown6, hk6⟩
      obtain ⟨A6, c6, rfl, hc6, hA6, hr6⟩ := own_read hown6
      have hs1 := run_string_rd (P := Try.prog) w6 25 9 5 Try.underlying25 Try.underlying5 Try.underlying9 A2 n c2 _ xs HL.out (hr2'.kp0 hk6)
      have hs2 := run_string_rd (P := Try.prog) w6 25 9 5 Try.underlying25 Try.underlying5 Try.underlying9 A n c _ xs HL.out (hrb.kp0 hk6)
      have hs3 := run_string_rd (P := Try.prog) w6 25 9 5 Try.underlying25 Try.underlying5 Try.underlying9 A6 N c6 _ (xs ++ ds) HXL.out hr6
      have hs4 := run_string_rd (P := Try.prog) w6 25 9 5 Try.underlying25 Try.underlying5 Try.underlying9 A4 N c4 _ (xs ++ ds) HXL.out (hr4'.kp0 hk6)
      clear hA6 hr6
      generalize strOfNums (xs ++ ds) = z1 at *
      generalize strOfNums xs = z2 at *
      go_wp2
      go_ret
      exact ⟨rfl, hkr.then hk6⟩
end Go.Proofs.Ythailfjdkphinaa
