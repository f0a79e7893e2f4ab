/- NumSums: bytes are summed alike; another byte makes another sum. -/
import Derived.Test.YthailfjdkphinaaAwake01
import Derived.Test.YthailfjdkphinaaRefSum
import Derived.Test.YthailfjdkphinaaLawGets
namespace Go.Proofs.Ythailfjdkphinaa
open Go.RowKit
set_option linter.unusedVariables false
set_option linter.unusedSimpArgs false

/-- The factor is odd: what it makes of two numbers below 2^32 differs if they do. -/
theorem times_back {x : Nat} (hx : x < 4294967296) : (x * 16777619 % 4294967296) * 899433627 % 4294967296 = x := by
  have h1 : 16777619 * 899433627 % 4294967296 = 1 := by decide +kernel
  rw [Nat.mul_mod, Nat.mod_mod, ← Nat.mul_mod, Nat.mul_assoc, Nat.mul_mod, h1, Nat.mul_one, Nat.mod_mod]
  exact Nat.mod_eq_of_lt hx
theorem times_inj {x y : Nat} (hx : x < 4294967296) (hy : y < 4294967296) (h : x * 16777619 % 4294967296 = y * 16777619 % 4294967296) : x = y := by
  rw [← times_back hx, ← times_back hy, h]
theorem xor_lt {x : Nat} {c : Int} (hx : x < 4294967296) (h1 : c < 256) : x ^^^ c.toNat < 4294967296 :=
  Nat.xor_lt_two_pow (n := 32) (by omega) (by omega)
theorem xor_cancel_left {a b c : Nat} (h : a ^^^ b = a ^^^ c) : b = c := by
  have := congrArg (a ^^^ ·) h
  simpa [← Nat.xor_assoc] using this
theorem mixb_inj_x {x y : Nat} {c : Int} (hx : x < 4294967296) (hy : y < 4294967296) (h1 : c < 256) (h : mixb x c = mixb y c) : x = y := by
  have h2 := times_inj (xor_lt hx h1) (xor_lt hy h1) h
  rw [Nat.xor_comm x, Nat.xor_comm y] at h2
  exact xor_cancel_left h2
theorem mixb_inj_c {x : Nat} {c d : Int} (hx : x < 4294967296) (h0 : 0 ≤ c) (h1 : c < 256) (g0 : 0 ≤ d) (g1 : d < 256) (h : mixb x c = mixb x d) : c = d := by
  have h2 := xor_cancel_left (times_inj (xor_lt hx h1) (xor_lt hx g1) h)
  omega
theorem sumb_inj (l : List Int) (hl : ∀ c ∈ l, c < 256) : ∀ x y, x < 4294967296 → y < 4294967296 → sumb x l = sumb y l → x = y := by
  induction l with
  | nil => intro x y _ _ h; exact h
  | cons c r ih =>
    intro x y hx hy h
    exact mixb_inj_x hx hy (hl c (by simp)) (ih (fun d hd => hl d (by simp [hd])) _ _ (mixb_lt x c) (mixb_lt y c) h)
theorem sumb_set : ∀ (l : List Int) (hl : ∀ c ∈ l, 0 ≤ c ∧ c < 256) (i : Nat) (c : Int) (h0 : 0 ≤ c) (h1 : c < 256) (hi : i < l.length) (hne : l.getD i 0 ≠ c) (x : Nat) (hx : x < 4294967296), sumb x (l.set i c) ≠ sumb x l
  | [], _, i, _, _, _, hi, _, _, _ => by simp at hi
  | b :: r, hl, 0, c, h0, h1, _, hne, x, hx => fun h => by
    have h2 := sumb_inj r (fun d hd => (hl d (by simp [hd])).2) _ _ (mixb_lt x c) (mixb_lt x b) h
    have := hl b (by simp)
    exact hne (by simpa using (mixb_inj_c hx h0 h1 this.1 this.2 h2).symm)
  | b :: r, hl, i + 1, c, h0, h1, hi, hne, x, hx => sumb_set r (fun d hd => hl d (by simp [hd])) i c h0 h1 (by simpa using hi) (by simpa using hne) (mixb x b) (mixb_lt x b)

set_option maxRecDepth 20000 in
set_option maxHeartbeats 1000000 in
theorem NumSums_walk (w : World) (A : Option Addr) (n c : Nat) (xs : List Int) (h : IntSl w .u8 1 A n c xs) (i : Int) (hi : I64 i) (d : Int) (hd : U8 d) :
    Calls Try.prog 7 #[.slice A n c, .int .i64 i, .int .u8 d] w fun e w' => e = .returned (.bool true) ∧ Kp [] w w' := by
  have hn : n ≤ 140737488351232 := by have := h.small; omega
  have h1 := fun (W : World) (hr : Rd W w.heap.size A (ints .u8 xs)) => num_Sum A n c _ xs W h.len hr (by omega) h.u8
  have h2 := fun (W : World) (hr : Rd W w.heap.size A (ints .u8 xs)) => ref_Sum A n c _ xs W h.len hr (by omega) h.u8
  have H1 := Lib.hid h1
  have H2 := Lib.hid h2
  have HL := Lib.hid h.len
  have HX := Lib.hid h.u8
  have hr := h.rd
  obtain ⟨d0, d1⟩ := hd
  clear h1 h2 h hi
  by_cases hin : 0 ≤ i ∧ i < n
  · obtain ⟨i0, i1⟩ := hin
    obtain ⟨k, rfl⟩ := Int.eq_ofNat_of_zero_le i0
    have hk : k < n := by omega
    have hne := sumb_set xs HX.out k d d0 d1 (by rw [HL.out]; exact hk)
    have hsx : ∀ x ∈ xs.set k d, 0 ≤ x ∧ x < 256 := fun x hx => by
      rcases List.mem_or_eq_of_mem_set hx with h | h
      · exact HX.out x h
      · subst h
        exact ⟨d0, d1⟩
    have HSX := Lib.hid hsx
    clear hsx
    obtain ⟨a, rfl, hc⟩ := hr.int (j := k) (by rw [HL.out]; exact hk)
    generalize hb : xs.getD k 0 = b at *
    have HB := Lib.hid hb
    clear hb
    generalize hsm : sumb 2166136261 xs = s at *
    have HSM := Lib.hid hsm
    clear hsm
    by_cases hbd : b = d
    · subst hbd
      clear hne
      go_enter Try.func7, Try.ntmps7
      go_wp2_with (first | (go_at_call 11; refine (awake _).mono ?_; rintro e w1 ⟨rfl, hk1⟩; have hc1 := hk1.cell hc (by simp)) | (go_at_call 20; refine (H1.out _ (hr.kp0 hk1)).mono ?_; rintro e w2 ⟨rfl, rfl⟩) | (go_at_call 21; refine (H2.out _ (hr.kp0 hk1)).mono ?_; rintro e w2 ⟨rfl, rfl⟩))
      go_ret
      exact ⟨rfl, hk1⟩
    · have hbe : (b == d) = false := beq_eq_false_iff_ne.2 hbd
      have HNE := Lib.hid (hne hbd 2166136261 (by omega))
      clear hne hbd
      have H3 := Lib.hid (fun (W : World) (cap B : Nat) (g : Nat) (hr : Rd W B (some ⟨g, 0, none⟩) (ints .u8 (xs.set k d))) => num_Sum (some ⟨g, 0, none⟩) n cap B (xs.set k d) W (by rw [List.length_set]; exact HL.out) hr (by omega) HSX.out)
      generalize hs2 : sumb 2166136261 (xs.set k d) = s2 at *
      have HS2 := Lib.hid hs2
      clear hs2
      have hne2 : ((s2 : Int) == (s : Int)) = false := beq_eq_false_iff_ne.2 (fun h => HNE.out (by rw [HSM.out]; omega))
      have hne3 : ((s2 : Int) != (s : Int)) = true := bne_iff_ne.2 (fun h => HNE.out (by rw [HSM.out]; omega))
      go_enter Try.func7, Try.ntmps7
      go_wp2_with (first | (go_at_call 11; refine (awake _).mono ?_; rintro e w1 ⟨rfl, hk1⟩; have hc1 := hk1.cell hc (by simp); have t1 : True := trivial) | (go_at_call 20; have t2 := t1; refine (H1.out _ (hr.kp0 hk1)).mono ?_; rintro e w2 ⟨rfl, rfl⟩; clear t1) | (go_at_call 21; refine (H2.out _ (hr.kp0 hk1)).mono ?_; rintro e w2 ⟨rfl, rfl⟩) | (at_builtin; refine wpList_append_rd _ rfl (.const (.slice none 0 0)) (.tmp 37) 25 5 rfl w1.heap.size (.int .u8 0) 1 1 Try.underlying25 u8_info rfl (by omega) (.slice none 0 0) 0 [] rfl (World.ownsRow_nil _ _ _ _) (some a) n c w.heap.size (ints .u8 xs) rfl (by rw [ints_length, HL.out, Nat.mul_one]) (hr.kp0 hk1) (ints_one _ _) (by omega) (by omega) (Nat.le_refl _) ?_; intro v2 w2 hown2 hg2 hat2; obtain ⟨g, cap, rfl, hgb, hgl⟩ := hown2.form (by omega); have hc2 : w2.cell? ⟨g, k, none⟩ = some (.int .u8 b) := (by rw [hown2.cellAt k (by omega), List.nil_append, ints_get _ _ _ (by rw [HL.out]; exact hk), HB.out]); have hf2 := hown2.frozenAt k))
      have hst := (hown2.stored k (.int .u8 d)).1
      have hrs := Rd.of_own hst
      simp only [List.nil_append] at hrs
      rw [show (ints .u8 xs).set k (.int .u8 d) = ints .u8 (xs.set k d) from by simp [ints]] at hrs
      refine (H3.out _ cap _ g hrs).mono ?_
      rintro e w3 ⟨rfl, rfl⟩
      go_wp2
      go_ret
      exact ⟨rfl, (hk1.own (World.ownsRow_nil w1 w1.heap.size 5 1) hk1.size hg2).setCell (p := ⟨g, k, none⟩) (.inr (by show w.heap.size ≤ g; have := hk1.size; omega)) _⟩
  · have hout : i < 0 ∨ (n : Int) ≤ i := by omega
    clear hin
    rcases hout with ho | ho
    all_goals
      go_enter Try.func7, Try.ntmps7
      go_wp2_with (first | (go_at_call 11; refine (awake _).mono ?_; rintro e w1 ⟨rfl, hk1⟩) | (go_at_call 20; refine (H1.out _ (hr.kp0 hk1)).mono ?_; rintro e w2 ⟨rfl, rfl⟩) | (go_at_call 21; refine (H2.out _ (hr.kp0 hk1)).mono ?_; rintro e w2 ⟨rfl, rfl⟩))
      go_ret
      exact ⟨rfl, hk1⟩
end Go.Proofs.Ythailfjdkphinaa
