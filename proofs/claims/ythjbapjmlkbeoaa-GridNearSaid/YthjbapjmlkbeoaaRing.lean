/- The places near one: where each lies, and how often. -/
import Derived.Test.YthjbapjmlkbeoaaRef04Near
namespace Go.Proofs.Ythjbapjmlkbeoaa
open Go.RowKit
set_option linter.unusedVariables false
set_option linter.unusedSimpArgs false

/-- How many of the first k places hold this pair. -/
def cntP (f : Nat → Int × Int) (d : Int × Int) : Nat → Nat
  | 0 => 0
  | k + 1 => cntP f d k + if f k = d then 1 else 0
theorem cntP_one {f : Nat → Int × Int} {d : Int × Int} {N j0 : Nat} (h : ∀ j, j < N → (f j = d ↔ j = j0)) : ∀ k, k ≤ N → cntP f d k = if j0 < k then 1 else 0
  | 0, _ => by simp [cntP]
  | k + 1, hk => by
    rw [cntP, cntP_one h k (by omega)]
    by_cases e : f k = d
    · have := (h k (by omega)).1 e
      subst this
      rw [if_pos e, if_neg (by omega), if_pos (by omega)]
    · have : k ≠ j0 := fun e' => e ((h k (by omega)).2 e')
      rw [if_neg e]
      by_cases h1 : j0 < k
      · rw [if_pos h1, if_pos (by omega)]
      · rw [if_neg h1, if_neg (by omega)]
theorem cntP_none {f : Nat → Int × Int} {d : Int × Int} {N : Nat} (h : ∀ j, j < N → f j ≠ d) : ∀ k, k ≤ N → cntP f d k = 0
  | 0, _ => rfl
  | k + 1, hk => by rw [cntP, cntP_none h k (by omega), if_neg (h k (by omega))]
theorem cntP_le (f : Nat → Int × Int) (d : Int × Int) : ∀ k, cntP f d k ≤ k
  | 0 => Nat.le_refl _
  | k + 1 => by
    have := cntP_le f d k
    rw [cntP]
    split <;> omega

/-- A near place, written out. -/
theorem nearP_out {cx cz r : Int} {j : Nat} (h0 : 0 ≤ r) (h8 : r ≤ 8) (hx : -2199023255552 ≤ cx ∧ cx ≤ 2199023255552) (hz : -2199023255552 ≤ cz ∧ cz ≤ 2199023255552) {s : Nat} (hs : lenS (-r) r = s) (hj : j < s * s) :
    nearP cx cz r j = (cx + (-r + ((j % s : Nat) : Int)), cz + (-r + ((j / s : Nat) : Int))) ∧ j % s < s ∧ j / s < s := by
  have hsr : (s : Int) = 2 * r + 1 := by rw [← hs, lenS]; omega
  have hs0 : 0 < s := by omega
  have h1 : j % s < s := Nat.mod_lt _ hs0
  have h2 : j / s < s := (Nat.div_lt_iff_lt_mul hs0).2 hj
  refine ⟨?_, h1, h2⟩
  rw [nearP, eachX, eachZ, hs, Nat.mod_eq_of_lt h2]
  generalize j % s = p at *
  generalize j / s = q at *
  have e1 : wrap64 (cx + (-r + (p : Int))) = cx + (-r + (p : Int)) := by unfold wrap64; omega
  have e2 : wrap64 (cz + (-r + (q : Int))) = cz + (-r + (q : Int)) := by unfold wrap64; omega
  rw [e1, e2]

theorem ring_in {cx cz r x z : Int} (h0 : 0 ≤ r) (h8 : r ≤ 8) (hx : -2199023255552 ≤ cx ∧ cx ≤ 2199023255552) (hz : -2199023255552 ≤ cz ∧ cz ≤ 2199023255552) {s : Nat} (hs : lenS (-r) r = s)
    (h : (-r ≤ x ∧ x ≤ r) ∧ -r ≤ z ∧ z ≤ r) : cntP (nearP cx cz r) (cx + x, cz + z) (s * s) = 1 := by
  have hsr : (s : Int) = 2 * r + 1 := by rw [← hs, lenS]; omega
  obtain ⟨p, hp⟩ := Int.eq_ofNat_of_zero_le (show 0 ≤ x + r by omega)
  obtain ⟨q, hq⟩ := Int.eq_ofNat_of_zero_le (show 0 ≤ z + r by omega)
  have hps : p < s := by omega
  have hqs : q < s := by omega
  have hlt : q * s + p < s * s := by
    have : (q + 1) * s ≤ s * s := Nat.mul_le_mul_right _ hqs
    rw [Nat.add_mul] at this
    omega
  rw [cntP_one (N := s * s) (j0 := q * s + p) (fun j hj => ?_) _ (Nat.le_refl _), if_pos hlt]
  obtain ⟨e, h1, h2⟩ := nearP_out h0 h8 hx hz hs hj
  rw [e]
  have hd : s * (j / s) + j % s = j := Nat.div_add_mod j s
  constructor
  · intro h3
    have h4 := Prod.mk.inj h3
    have h5 : j % s = p := by omega
    have h6 : j / s = q := by omega
    rw [← hd, h5, h6, Nat.mul_comm]
  · rintro rfl
    rw [place_x hps, place_z hps]
    rw [Prod.mk.injEq]
    omega
theorem ring_out {cx cz r x z : Int} (h0 : 0 ≤ r) (h8 : r ≤ 8) (hx : -2199023255552 ≤ cx ∧ cx ≤ 2199023255552) (hz : -2199023255552 ≤ cz ∧ cz ≤ 2199023255552) {s : Nat} (hs : lenS (-r) r = s)
    (h : ¬ ((-r ≤ x ∧ x ≤ r) ∧ -r ≤ z ∧ z ≤ r)) : cntP (nearP cx cz r) (cx + x, cz + z) (s * s) = 0 := by
  have hsr : (s : Int) = 2 * r + 1 := by rw [← hs, lenS]; omega
  refine cntP_none (N := s * s) (fun j hj => ?_) _ (Nat.le_refl _)
  obtain ⟨e, h1, h2⟩ := nearP_out h0 h8 hx hz hs hj
  rw [e]
  clear e hj
  generalize j % s = p at *
  generalize j / s = q at *
  intro h3
  obtain ⟨h4, h5⟩ := Prod.mk.inj h3
  omega

theorem ats_get : ∀ (l : List (Int × Int)) (j : Nat), j < l.length → (ats l)[j * 2]? = some (.int .i64 (l.getD j (0, 0)).1) ∧ (ats l)[j * 2 + 1]? = some (.int .i64 (l.getD j (0, 0)).2)
  | [], j, h => by simp at h
  | p :: r, 0, _ => ⟨rfl, rfl⟩
  | p :: r, j + 1, h => by
    have := ats_get r j (by simpa using h)
    have e : ats (p :: r) = .int .i64 p.1 :: .int .i64 p.2 :: ats r := rfl
    rw [e, show (j + 1) * 2 = j * 2 + 2 by omega]
    simpa using this
theorem nearL_get {cx cz r : Int} {s : Nat} (hL : nearL cx cz r = (List.range (s * s)).map (nearP cx cz r)) {j : Nat} (hj : j < s * s) : (nearL cx cz r).getD j (0, 0) = nearP cx cz r j := by
  rw [hL, List.getD_eq_getElem?_getD, List.getElem?_map, List.getElem?_range hj]
  rfl

end Go.Proofs.Ythjbapjmlkbeoaa
