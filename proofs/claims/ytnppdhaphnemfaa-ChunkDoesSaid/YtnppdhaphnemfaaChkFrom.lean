/- chunk.From: a chunk of bytes. -/
import Derived.Laws.CopyOwn
import Derived.Test.YtnppdhaphnemfaaMax
import Derived.Test.YtnppdhaphnemfaaChkNew
import Derived.Test.YtnppdhaphnemfaaChkBytes
namespace Go.Proofs.Ytnppdhaphnemfaa
open Go.RowKit
set_option linter.unusedVariables false
set_option linter.unusedSimpArgs false

theorem Kp.setRow {S : List Nat} {w w' : World} (h : Kp S w w') {g : Nat} (hg : g ∈ S ∨ w.heap.size ≤ g) (cs : Array Value) : Kp S w (w'.setRow g cs) :=
  ⟨h.os, h.tape, h.output, by simpa [World.setRow] using h.size, fun x hx hn => (setRow_other w' g x cs (by
    rintro rfl
    rcases hg with hg | hg
    · exact hn hg
    · omega)).trans (h.block x hx hn)⟩

/-- What is wrong with bytes (0: nothing). -/
def mayS (xs : List Int) : Int := if xs.length < 32768 then 3 else if 32768 < xs.length then 2 else if mx xs 32768 > 16 then 10 else 0
theorem mayS_short {xs : List Int} (h : xs.length < 32768) : mayS xs = 3 := if_pos h
theorem mayS_long {xs : List Int} (h : 32768 < xs.length) : mayS xs = 2 := by rw [mayS, if_neg (by omega), if_pos h]
theorem mayS_kind {xs : List Int} (h : xs.length = 32768) (hm : mx xs 32768 > 16) : mayS xs = 10 := by rw [mayS, if_neg (by omega), if_neg (by omega), if_pos hm]
theorem mayS_ok {xs : List Int} (h : xs.length = 32768) (hm : ¬ mx xs 32768 > 16) : mayS xs = 0 := by rw [mayS, if_neg (by omega), if_neg (by omega), if_neg hm]

set_option maxRecDepth 20000 in
set_option maxHeartbeats 1000000 in
theorem chunk_From_no (A : Option Addr) (n c B : Nat) (xs : List Int) (w : World) (hl : xs.length = n) (hr : Rd w B A (ints .u8 xs)) (hn : (n : Int) ≤ 140737488355328) (hx : ∀ x ∈ xs, 0 ≤ x ∧ x < 256) (hm : mayS xs ≠ 0) :
    Calls Try.prog 20 #[.slice A n c] w fun e w' => e = .returned (.tuple #[.pointer none, .int .i64 (mayS xs)]) ∧ w = w' := by
  rcases Nat.lt_trichotomy n 32768 with h | h | h
  · have HM := Lib.hid (mayS_short (xs := xs) (by omega))
    have hi : (n : Int) < 32768 := by omega
    clear h hl hx hm hr
    go_enter Try.func20, Try.ntmps20
    go_wp2
    go_ret2
    exact ⟨by rw [HM.out]; rfl, rfl⟩
  · subst h
    by_cases hk : mx xs 32768 > 16
    · have HM := Lib.hid (mayS_kind hl hk)
      have HC := Lib.hid (max_bytes A 32768 c B xs w hl hr hn (by omega) hx)
      obtain ⟨m0, m1⟩ := mx_range xs hx 32768 (by omega)
      generalize mx xs 32768 = m at *
      clear hl hx hm hr hn
      go_enter Try.func20, Try.ntmps20
      go_wp2_with (go_at_call 35; refine HC.out.mono ?_; rintro e w1 ⟨rfl, rfl⟩)
      go_ret2
      exact ⟨by rw [HM.out]; rfl, rfl⟩
    · exact absurd (mayS_ok hl hk) hm
  · have HM := Lib.hid (mayS_long (xs := xs) (by omega))
    have d1 : decide ((n : Int) < 32768) = false := decide_eq_false (by omega)
    have d2 : decide ((32768 : Int) < n) = true := decide_eq_true (by omega)
    clear h hl hx hm hr
    go_enter Try.func20, Try.ntmps20
    go_wp2
    go_ret2
    exact ⟨by rw [HM.out]; rfl, rfl⟩

theorem mayS_zero {xs : List Int} (h : mayS xs = 0) : xs.length = 32768 ∧ mx xs 32768 ≤ 16 := by
  unfold mayS at h
  split at h
  · cases h
  · split at h
    · cases h
    · split at h
      · cases h
      · omega

theorem u8_one : (Try.prog.info? 5).map (·.size) = some 1 := by kernel_rfl
theorem wpList_copy_chunk {w : World} {ops : Array Oper} {rest : List Oper} {o : Oper} {a : Act} {Q : Exit → Act → World → Prop} (hgd : o.guard = none) (d s : Operand)
    (ho : o.op = .call { callee := .builtin .copy, args := #[d, s], argTypes := #[25, 25] }) (b c B : Nat) (A : Option Addr) (xs : List Int) (f : Nat → Int)
    (hd : a.eval d = .slice (some ⟨b, 0, none⟩) 32768 32768) (hs : a.eval s = .slice A 32768 c) (hl : xs.length = 32768) (hr : Rd w B A (ints .u8 xs)) (hx : ∀ x ∈ xs, 0 ≤ x ∧ x < 256) (hA : ∀ i, i < 32768 → xs.getD i 0 ≤ 16)
    (hc : Chk w b f) (h : ∀ w', Hid (Chk w' b (fun i => xs.getD i 0)) → Kp [b] w w' → wpList Try.prog ops Q rest (a.put o.dst (goInt 32768)) w') : wpList Try.prog ops Q (o :: rest) a w := by
  obtain ⟨⟨cs, hb, hsz, hcs⟩, hrg⟩ := hc
  obtain ⟨ad, hAd, hc0⟩ := hr.int (j := 0) (by omega)
  subst hAd
  have hlen : (ints .u8 xs).length = 32768 := by rw [ints_length, hl]
  refine wpList_copy_own hgd d s _ _ ho 5 Try.underlying25 u8_one b 0 32768 32768 ad 32768 c hd hs cs 60 hb (ints .u8 xs) (by rw [hlen]; exact (Nat.min_self _).symm) ?_ (by rw [hlen, hsz]; omega) (ints_one _ _) ?_
  · intro j v hj
    obtain ⟨_, h1, _, h2⟩ := hr j v hj
    obtain rfl := Option.some.inj h1
    exact h2
  · rw [hlen]
    refine h _ ⟨⟨_, setRow_heap w b cs _ _ _ hb, ?_, ?_⟩, ?_⟩ ((Kp.refl _ _).setRow (.inl (by simp)) _)
    · simp [hlen, hsz]
    · intro i hi
      have h3 : cs.toList.drop (0 + 32768) = [] := List.drop_eq_nil_of_le (by rw [Array.length_toList, hsz]; omega)
      rw [h3, List.take_zero, List.nil_append, List.append_nil, List.getElem?_toArray, ints_get _ _ _ (by omega)]
    · intro i hi
      refine ⟨(hx _ ?_).1, hA i hi⟩
      rw [List.getD_eq_getElem?_getD, List.getElem?_eq_getElem (by omega)]
      exact List.getElem_mem _

set_option maxRecDepth 20000 in
set_option maxHeartbeats 1000000 in
theorem chunk_From (A : Option Addr) (n c B : Nat) (xs : List Int) (w : World) (hl : xs.length = n) (hr : Rd w B A (ints .u8 xs)) (hx : ∀ x ∈ xs, 0 ≤ x ∧ x < 256) (hm : mayS xs = 0) :
    Calls Try.prog 20 #[.slice A n c] w fun e w' => ∃ b, e = .returned (.tuple #[.pointer (some ⟨b, 0, none⟩), .int .i64 0]) ∧ w.heap.size ≤ b ∧ Chk w' b (fun i => xs.getD i 0) ∧ Kp [] w w' := by
  obtain ⟨h1, h2⟩ := mayS_zero hm
  obtain rfl : n = 32768 := by omega
  have hall := (mx_le xs 16 (by omega) 32768 (by omega)).1 h2
  have HC := Lib.hid (max_bytes A 32768 c B xs w hl hr (by omega) (by omega) hx)
  obtain ⟨m0, m1⟩ := mx_range xs hx 32768 (by omega)
  have HN := Lib.hid (chunk_New w)
  have HR := Lib.hid (hr.size)
  have HX := Lib.hid hx
  have HL := Lib.hid hl
  have HA := Lib.hid hall
  generalize mx xs 32768 = m at *
  clear hl hx hm hr h1 hall
  go_enter Try.func20, Try.ntmps20
  go_wp2_with (first | (go_at_call 35; refine HC.out.mono ?_; rintro e w1 ⟨rfl, rfl⟩) | (go_at_call 31; refine HN.out.mono ?_; rintro e w1 ⟨b, rfl, hb, hc1, hk1⟩; have HC1 := Lib.hid hc1; clear hc1) | ((with_reducible refine gate_op (.call { callee := .builtin .copy, args := #[.tmp 21, .tmp 22], argTypes := #[25, 25] }) rfl ?_); refine wpList_copy_chunk rfl (.tmp 21) (.tmp 22) rfl b c w1.heap.size A xs _ rfl rfl HL.out ((HR.out.kp0 hk1).size) HX.out HA.out HC1.out ?_; intro w2 HC2 hk2))
  go_ret2
  exact ⟨b, rfl, hb, HC2.out, hk1.trans hk2 (fun x hx _ => by simp at hx; omega)⟩
end Go.Proofs.Ytnppdhaphnemfaa
