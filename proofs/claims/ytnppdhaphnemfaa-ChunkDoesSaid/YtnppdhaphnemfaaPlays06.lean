/- plays: a chunk and its cells behind some calls. -/
import Derived.Deep.RegionHeld3
import Derived.Test.YtnppdhaphnemfaaOpenRows
import Derived.Test.YtnppdhaphnemfaaChkSet
import Derived.Test.YtnppdhaphnemfaaChkFill
import Derived.Test.YtnppdhaphnemfaaChkNew
import Derived.Test.YtnppdhaphnemfaaRef06New
import Derived.Test.YtnppdhaphnemfaaRef06Set
import Derived.Test.YtnppdhaphnemfaaRef06Fill
namespace Go.Proofs.Ytnppdhaphnemfaa
open Go.RowKit
set_option linter.unusedVariables false
set_option linter.unusedSimpArgs false

/-- The cells behind one call. -/
def step06 (f : Nat → Int) (kind x y k : Int) : Nat → Int := if kind = 1 then fillS f x y k else setS f x k
/-- The cells behind the first n calls. -/
def play06 (xs : List Int) : Nat → Nat → Int
  | 0 => fun _ => 0
  | n + 1 => step06 (play06 xs n) (xs.getD (n * 4) 0) (xs.getD (n * 4 + 1) 0) (xs.getD (n * 4 + 2) 0) (xs.getD (n * 4 + 3) 0)

/-- Where a row lies that holds something. -/
theorem Rd.plain {w : World} {B : Nat} {a : Addr} {k : IntKind} {xs : List Int} (h : Rd w B (some a) (ints k xs)) (h0 : 0 < xs.length) : ∃ b o, a = ⟨b, o, none⟩ := by
  obtain ⟨_, h1, hc⟩ := h.int h0
  obtain rfl := Option.some.inj h1
  obtain ⟨b, o, sp⟩ := a
  cases sp with
  | none => exact ⟨b, o, rfl⟩
  | some s =>
    rw [Addr.add, if_pos rfl] at hc
    unfold World.cell? at hc
    split at hc <;> simp at hc
theorem Rd.at4 {w : World} {B b o : Nat} {k : IntKind} {xs : List Int} (h : Rd w B (some ⟨b, o, none⟩) (ints k xs)) {j q : Nat} (hj : j + q < xs.length) : w.cell? ⟨b, o + j + q, none⟩ = some (.int k (xs.getD (j + q) 0)) := by
  obtain ⟨_, h1, hc⟩ := h.int hj
  obtain rfl := Option.some.inj h1
  rw [add_plain, ← Nat.add_assoc] at hc
  exact hc

theorem Cells.ne {w : World} {b g : Nat} {f h : Nat → Int} (hc : Chk w b f) (hd : Row w g h) : b ≠ g := fun e => by
  subst e
  obtain ⟨⟨cs, h1, _⟩, _⟩ := hc
  obtain ⟨⟨ds, h2, _⟩, _⟩ := hd
  unfold Bk at h1 h2
  rw [h1] at h2
  injection h2 with h2
  injection h2 with _ h2
  exact absurd h2 (by decide)

set_option maxRecDepth 20000 in
set_option maxHeartbeats 4000000 in
theorem plays06 (w : World) (A : Option Addr) (n c B : Nat) (xs : List Int) (hl : xs.length = n * 4) (hr : Rd w B A (ints .i64 xs)) (hB : B ≤ w.heap.size) (hn : (n : Int) ≤ 140737488351232) (hi : ∀ x ∈ xs, I64 x) :
    Calls Try.prog 12 #[.slice A n c] w fun e w' => ∃ b g, e = .returned (.tuple #[.pointer (some ⟨b, 0, none⟩), .slice (some ⟨g, 0, none⟩) 32768 32768, .bool true]) ∧ w.heap.size ≤ b ∧ w.heap.size ≤ g ∧
      Chk w' b (play06 xs (min n 400)) ∧ Row w' g (play06 xs (min n 400)) ∧ Kp [] w w' := by
  have HL := Lib.hid hl
  have HR := Lib.hid hr
  have HI := Lib.hid hi
  clear hl hr hi
  go_enter Try.func12, Try.ntmps12
  go_wp2_with (first | (go_at_call 31; refine (chunk_New _).mono ?_; rintro e w1 ⟨b, rfl, hb, hc1, hk1⟩; have HC1 := Lib.hid hc1; have HK1 := Lib.hid hk1; clear hc1 hk1) | (go_at_call 23; refine (ref_New 0 _ (by omega) (by omega)).mono ?_; rintro e w2 ⟨g, rfl, hg, hr2, hk2⟩; have HR2 := Lib.hid hr2; have HK2 := Lib.hid hk2; clear hr2 hk2))
  have hb12 := HK1.out.size
  have HC2 := Lib.hid (HC1.out.kp0 HK2.out)
  have HK := Lib.hid (HK1.out.then HK2.out)
  have hbg := HC1.out.lt
  clear HC1 HK1 HK2
  go_loopw [7] (fun i wr => ∃ m : Nat, i = .int .i64 m ∧ (m : Int) ≤ n ∧ (m : Int) ≤ 400 ∧ Hid (Chk wr b (play06 xs m)) ∧ Hid (Row wr g (play06 xs m)) ∧ Hid (Kp [] w wr)) (fun i _ => ((n : Int) - intOf i).toNat)
  case atStart => exact ⟨0, rfl, by omega, by omega, HC2, HR2, HK⟩
  case round =>
    obtain ⟨m, rfl, hm, hm4, HCm, HRm, HKm⟩ := hrel
    by_cases hlt : (m : Int) < n
    · by_cases hlt4 : (m : Int) < 400
      · have hr0 := HR.out.kp0 HKm.out
        obtain ⟨a, rfl, _⟩ := hr0.int (j := m * 4) (by rw [HL.out]; omega)
        obtain ⟨ab, ao, rfl⟩ := hr0.plain (by rw [HL.out]; omega)
        have c0 := hr0.at4 (j := m * 4) (q := 0) (by rw [HL.out]; omega)
        have c1 := hr0.at4 (j := m * 4) (q := 1) (by rw [HL.out]; omega)
        have c2 := hr0.at4 (j := m * 4) (q := 2) (by rw [HL.out]; omega)
        have c3 := hr0.at4 (j := m * 4) (q := 3) (by rw [HL.out]; omega)
        rw [Nat.add_zero] at c0
        obtain ⟨_, h1, hab, _⟩ := hr0 (m * 4) _ (ints_get .i64 xs (m * 4) (by rw [HL.out]; omega))
        obtain rfl := Option.some.inj h1
        have HST : Hid (play06 xs (m + 1) = step06 (play06 xs m) (xs.getD (m * 4) 0) (xs.getD (m * 4 + 1) 0) (xs.getD (m * 4 + 2) 0) (xs.getD (m * 4 + 3) 0)) := rfl
        generalize xs.getD (m * 4) 0 = q0 at *
        generalize xs.getD (m * 4 + 1) 0 = q1 at *
        generalize xs.getD (m * 4 + 2) 0 = q2 at *
        generalize xs.getD (m * 4 + 3) 0 = q3 at *
        have hab2 : ab < B := hab
        have HNB : Hid (ab ∉ [b]) := by
          show ab ∉ [b]
          simp only [List.mem_singleton]
          omega
        have HNG : Hid (ab ∉ [g]) := by
          show ab ∉ [g]
          simp only [List.mem_singleton]
          omega
        have HGB : Hid (g ∉ [b]) := by
          show g ∉ [b]
          simp only [List.mem_singleton]
          omega
        have HBG : Hid (b ∉ [g]) := by
          show b ∉ [g]
          simp only [List.mem_singleton]
          omega
        clear hr0 hab hab2 h1
        by_cases hq : q0 = 1
        · have hqe : (q0 == 1) = true := by simpa using hq
          go_wp2_with fail
          go_region_held3 (fun w' => w'.cell? ⟨ab, ao + m * 4 + 1, none⟩ = some (.int .i64 q1) ∧ w'.cell? ⟨ab, ao + m * 4 + 2, none⟩ = some (.int .i64 q2) ∧ w'.cell? ⟨ab, ao + m * 4 + 3, none⟩ = some (.int .i64 q3)) (first | exact ⟨c1, c2, c3⟩ | exact ⟨k1, k2, k3⟩ | exact ⟨j1, j2, j3⟩)
            (first
              | (go_at_call 25; refine (chunk_Fill b _ _ _ _ _ (HCm.out.kp0 (Kp.refl [] _).drew)).mono ?_; rintro e w3 ⟨rfl, hc3, hk3⟩; have k1 := hk3.cell c1 HNB.out; have k2 := hk3.cell c2 HNB.out; have k3 := hk3.cell c3 HNB.out)
              | (go_at_call 28; refine (ref_Fill g _ _ _ _ _ ((HRm.out.kp0 (Kp.refl [] _).drew).kp hk3 HGB.out)).mono ?_; rintro e w4 ⟨rfl, hr4, hk4⟩; have j1 := hk4.cell k1 HNG.out; have j2 := hk4.cell k2 HNG.out; have j3 := hk4.cell k3 HNG.out))
          go_wp2
          all_goals
            go_roundw
            case rel =>
              refine ⟨m + 1, by go_num, by omega, by omega, ?_, ?_, ?_⟩
              · show Chk _ _ _
                rw [HST.out, step06, if_pos hq]
                exact hc3.kp hk4 HBG.out
              · show Row _ _ _
                rw [HST.out, step06, if_pos hq]
                exact hr4
              · exact (HKm.out.drew.trans hk3 (fun x hx _ => by simp at hx; omega)).trans hk4 (fun x hx _ => by simp at hx; omega)
            case measure => simp [intOf] <;> omega
        · have hqe : (q0 == 1) = false := by simpa using hq
          go_wp2_with fail
          go_region_held3 (fun w' => w'.cell? ⟨ab, ao + m * 4 + 1, none⟩ = some (.int .i64 q1) ∧ w'.cell? ⟨ab, ao + m * 4 + 3, none⟩ = some (.int .i64 q3)) (first | exact ⟨c1, c3⟩ | exact ⟨k1, k3⟩ | exact ⟨j1, j3⟩)
            (first
              | (go_at_call 16; refine (chunk_Set b _ _ _ _ (HCm.out.kp0 (Kp.refl [] _).drew)).mono ?_; rintro e w3 ⟨rfl, hc3, hk3⟩; have k1 := hk3.cell c1 HNB.out; have k3 := hk3.cell c3 HNB.out)
              | (go_at_call 29; refine (ref_Set g _ _ _ _ ((HRm.out.kp0 (Kp.refl [] _).drew).kp hk3 HGB.out)).mono ?_; rintro e w4 ⟨rfl, hr4, hk4⟩; have j1 := hk4.cell k1 HNG.out; have j3 := hk4.cell k3 HNG.out))
          go_wp2
          all_goals
            go_roundw
            case rel =>
              refine ⟨m + 1, by go_num, by omega, by omega, ?_, ?_, ?_⟩
              · show Chk _ _ _
                rw [HST.out, step06, if_neg hq]
                exact hc3.kp hk4 HBG.out
              · show Row _ _ _
                rw [HST.out, step06, if_neg hq]
                exact hr4
              · exact (HKm.out.drew.trans hk3 (fun x hx _ => by simp at hx; omega)).trans hk4 (fun x hx _ => by simp at hx; omega)
            case measure => simp [intOf] <;> omega
      · have hne : m = 400 := by omega
        subst hne
        have hmin : min n 400 = 400 := Nat.min_eq_right (by omega)
        have HMIN := Lib.hid hmin
        clear hmin
        go_wp2
        go_ret3
        exact ⟨b, g, rfl, hb, by omega, by rw [HMIN.out]; exact HCm.out, by rw [HMIN.out]; exact HRm.out, HKm.out⟩
    · have hne : m = n := by omega
      subst hne
      have HMIN : Hid (min m 400 = m) := Nat.min_eq_left (by omega)
      go_wp2
      go_ret3
      exact ⟨b, g, rfl, hb, by omega, by rw [HMIN.out]; exact HCm.out, by rw [HMIN.out]; exact HRm.out, HKm.out⟩
end Go.Proofs.Ytnppdhaphnemfaa
