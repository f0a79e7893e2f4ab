/- The places of a box: each lies in it, and they rise. -/
import Derived.Test.YthjbapjmlkbeoaaEach
namespace Go.Proofs.Ythjbapjmlkbeoaa
open Go.RowKit
set_option linter.unusedVariables false
set_option linter.unusedSimpArgs false

theorem next_place (j d : Nat) (hd : 0 < d) : (j % d + 1 < d ∧ (j + 1) % d = j % d + 1 ∧ (j + 1) / d = j / d) ∨ (j % d + 1 = d ∧ (j + 1) % d = 0 ∧ (j + 1) / d = j / d + 1) := by
  have h := Nat.div_add_mod j d
  have hr := Nat.mod_lt j hd
  generalize j / d = q at *
  generalize j % d = r at *
  subst h
  by_cases hlt : r + 1 < d
  · refine .inl ⟨hlt, ?_, ?_⟩
    · rw [Nat.add_assoc, Nat.mul_add_mod, Nat.mod_eq_of_lt hlt]
    · rw [Nat.add_assoc, Nat.mul_add_div hd, Nat.div_eq_of_lt hlt, Nat.add_zero]
  · have he : r + 1 = d := by omega
    refine .inr ⟨he, ?_, ?_⟩
    · rw [Nat.add_assoc, he, ← Nat.mul_succ, Nat.mul_mod_right]
    · rw [Nat.add_assoc, he, ← Nat.mul_succ, Nat.mul_div_cancel_left _ hd]

/-- What a box with cells is. -/
theorem each_good {ax ay az bx by' bz : Int} (h : 0 < eachN ax ay az bx by' bz) : (ax ≤ bx ∧ -1099511627776 ≤ ax ∧ bx ≤ 1099511627776) ∧ (ay ≤ by' ∧ -1099511627776 ≤ ay ∧ by' ≤ 1099511627776) ∧ (az ≤ bz ∧ -1099511627776 ≤ az ∧ bz ≤ 1099511627776) ∧
    eachN ax ay az bx by' bz = lenS ay by' * lenS az bz * lenS ax bx := by
  by_cases hz : countS ax ay az bx by' bz = 0
  · rw [eachN, if_pos hz] at h
    omega
  · have hbad : (badS ax bx || badS ay by' || badS az bz) = false := by
      rw [← Bool.not_eq_true]
      intro h
      exact hz (by rw [countS, h]; rfl)
    simp only [Bool.or_eq_false_iff] at hbad
    exact ⟨badS_false.1 hbad.1.1, badS_false.1 hbad.1.2, badS_false.1 hbad.2, by rw [eachN, if_neg hz]⟩

theorem each_in_box {ax ay az bx by' bz : Int} {j : Nat} (h : j < eachN ax ay az bx by' bz) : (ax ≤ eachX ax bx j ∧ eachX ax bx j ≤ bx) ∧ (ay ≤ eachY ax bx az bz ay j ∧ eachY ax bx az bz ay j ≤ by') ∧ az ≤ eachZ ax bx az bz j ∧ eachZ ax bx az bz j ≤ bz := by
  obtain ⟨hx, hy, hz, hN⟩ := each_good (Nat.lt_of_le_of_lt (Nat.zero_le _) h)
  rw [hN] at h
  have h1 : j % lenS ax bx < lenS ax bx := Nat.mod_lt _ (by unfold lenS; omega)
  have h2 : j / lenS ax bx % lenS az bz < lenS az bz := Nat.mod_lt _ (by unfold lenS; omega)
  have h3 : j / lenS ax bx / lenS az bz < lenS ay by' := by
    rw [Nat.div_lt_iff_lt_mul (by unfold lenS; omega), Nat.div_lt_iff_lt_mul (by unfold lenS; omega)]
    exact h
  unfold eachX eachY eachZ
  generalize j / lenS ax bx / lenS az bz = p at *
  generalize j / lenS ax bx % lenS az bz = q at *
  generalize j % lenS ax bx = r at *
  unfold lenS at h1 h2 h3
  omega

theorem each_first (ax ay az bx bz : Int) : eachX ax bx 0 = ax ∧ eachY ax bx az bz ay 0 = ay ∧ eachZ ax bx az bz 0 = az := by
  unfold eachX eachY eachZ
  simp

theorem each_next {ax ay az bx by' bz : Int} {j : Nat} (h : j + 1 < eachN ax ay az bx by' bz) :
    eachY ax bx az bz ay j < eachY ax bx az bz ay (j + 1) ∨ (eachY ax bx az bz ay (j + 1) = eachY ax bx az bz ay j ∧ (eachZ ax bx az bz j < eachZ ax bx az bz (j + 1) ∨ (eachZ ax bx az bz (j + 1) = eachZ ax bx az bz j ∧ eachX ax bx j < eachX ax bx (j + 1)))) := by
  obtain ⟨hx, hy, hz, _⟩ := each_good (Nat.lt_of_le_of_lt (Nat.zero_le _) h)
  have h1 := next_place j (lenS ax bx) (by unfold lenS; omega)
  have h2 := next_place (j / lenS ax bx) (lenS az bz) (by unfold lenS; omega)
  unfold eachX eachY eachZ
  rcases h1 with ⟨_, e1, e2⟩ | ⟨_, e1, e2⟩
  · rw [e1, e2]
    omega
  · rw [e1, e2]
    rcases h2 with ⟨_, e3, e4⟩ | ⟨_, e3, e4⟩
    · rw [e3, e4]
      omega
    · rw [e3, e4]
      omega

theorem each_last {ax ay az bx by' bz : Int} (h : 0 < eachN ax ay az bx by' bz) : eachX ax bx (eachN ax ay az bx by' bz - 1) = bx ∧ eachY ax bx az bz ay (eachN ax ay az bx by' bz - 1) = by' ∧ eachZ ax bx az bz (eachN ax ay az bx by' bz - 1) = bz := by
  obtain ⟨hx, hy, hz, hN⟩ := each_good h
  obtain ⟨sx, hsx⟩ : ∃ sx, lenS ax bx = sx := ⟨_, rfl⟩
  obtain ⟨sy, hsy⟩ : ∃ sy, lenS ay by' = sy := ⟨_, rfl⟩
  obtain ⟨sz, hsz⟩ : ∃ sz, lenS az bz = sz := ⟨_, rfl⟩
  have hsx' : (sx : Int) = bx - ax + 1 := by rw [← hsx, lenS]; omega
  have hsy' : (sy : Int) = by' - ay + 1 := by rw [← hsy, lenS]; omega
  have hsz' : (sz : Int) = bz - az + 1 := by rw [← hsz, lenS]; omega
  rw [hN, hsx, hsy, hsz]
  have e : sy * sz * sx - 1 = ((sy - 1) * sz + (sz - 1)) * sx + (sx - 1) := by
    obtain ⟨a, rfl⟩ : ∃ a, sx = a + 1 := ⟨sx - 1, by omega⟩
    obtain ⟨b, rfl⟩ : ∃ b, sy = b + 1 := ⟨sy - 1, by omega⟩
    obtain ⟨c, rfl⟩ : ∃ c, sz = c + 1 := ⟨sz - 1, by omega⟩
    simp only [Nat.add_sub_cancel]
    have h1 : (b + 1) * (c + 1) = (b * (c + 1) + c) + 1 := by rw [Nat.add_mul, Nat.one_mul]; omega
    rw [h1, Nat.add_mul, Nat.one_mul]
    omega
  rw [e, eachX, eachY, eachZ, hsx, hsz, place_x (by omega), place_z (by omega), place_x (by omega), place_z (by omega)]
  omega

/-- A number of cells that is small is what Count tells. -/
theorem each_count {ax ay az bx by' bz : Int} (h : eachN ax ay az bx by' bz < 2147483648) : countS ax ay az bx by' bz = eachN ax ay az bx by' bz := by
  by_cases hz : countS ax ay az bx by' bz = 0
  · rw [eachN, if_pos hz, hz]
    rfl
  · have hbad : (badS ax bx || badS ay by' || badS az bz) = false := by
      rw [← Bool.not_eq_true]
      intro h
      exact hz (by rw [countS, h]; rfl)
    have hb := hbad
    simp only [Bool.or_eq_false_iff] at hb
    have gx := badS_false.1 hb.1.1
    have gy := badS_false.1 hb.1.2
    have gz := badS_false.1 hb.2
    rw [eachN, if_neg hz] at h ⊢
    rw [countS, hbad]
    obtain ⟨sx, hsx⟩ : ∃ sx, lenS ax bx = sx := ⟨_, rfl⟩
    obtain ⟨sy, hsy⟩ : ∃ sy, lenS ay by' = sy := ⟨_, rfl⟩
    obtain ⟨sz, hsz⟩ : ∃ sz, lenS az bz = sz := ⟨_, rfl⟩
    have hsx' : bx - ax + 1 = (sx : Int) := by rw [← hsx, lenS]; omega
    have hsy' : by' - ay + 1 = (sy : Int) := by rw [← hsy, lenS]; omega
    have hsz' : bz - az + 1 = (sz : Int) := by rw [← hsz, lenS]; omega
    have px : 1 ≤ sx := by omega
    have py : 1 ≤ sy := by omega
    have pz : 1 ≤ sz := by omega
    rw [hsx, hsy, hsz] at h ⊢
    rw [hsx', hsy', hsz']
    have h1 : sx * sy ≤ sy * sz * sx := by
      rw [Nat.mul_comm (sy * sz) sx]
      exact Nat.mul_le_mul_left _ (Nat.le_mul_of_pos_right _ pz)
    have h2 : sx ≤ sx * sy := Nat.le_mul_of_pos_right _ py
    have h3 : sy ≤ sx * sy := Nat.le_mul_of_pos_left _ px
    have h4 : sz ≤ sy * sz * sx := Nat.le_trans (Nat.le_mul_of_pos_left _ py) (Nat.le_mul_of_pos_right _ px)
    have e1 : upM 1 (sx : Int) = sx := by unfold upM; omega
    have e2 : upM (sx : Int) (sy : Int) = ((sx * sy : Nat) : Int) := by
      unfold upM
      rw [show min (sy : Int) 2147483648 = sy by omega, ← Int.natCast_mul]
      omega
    have e3 : upM ((sx * sy : Nat) : Int) (sz : Int) = ((sx * sy * sz : Nat) : Int) := by
      have h5 : sx * sy * sz = sy * sz * sx := by rw [Nat.mul_comm (sy * sz) sx, Nat.mul_assoc]
      unfold upM
      rw [show min (sz : Int) 2147483648 = sz by omega, ← Int.natCast_mul]
      omega
    show upM (upM (upM 1 (sx : Int)) (sy : Int)) (sz : Int) = _
    rw [e1, e2, e3, Nat.mul_comm (sy * sz) sx, Nat.mul_assoc]

theorem upM_prod {a b c : Int} (ha : 1 ≤ a) (hb : 1 ≤ b) (hc : 1 ≤ c) (h : 2147483648 ≤ b * c * a) : upM (upM (upM 1 a) b) c = 2147483648 := by
  have top : ∀ s : Int, 1 ≤ s → upM 2147483648 s = 2147483648 := fun s hs => by unfold upM; omega
  by_cases h1 : 2147483648 ≤ a
  · have e1 : upM 1 a = 2147483648 := by unfold upM; omega
    rw [e1, top _ hb, top _ hc]
  · have e1 : upM 1 a = a := by unfold upM; omega
    rw [e1]
    by_cases h2 : 2147483648 ≤ a * b
    · have e2 : upM a b = 2147483648 := by
        unfold upM
        by_cases h3 : b < 2147483648
        · rw [show min b 2147483648 = b by omega]
          omega
        · rw [show min b 2147483648 = 2147483648 by omega]
          omega
      rw [e2, top _ hc]
    · have hle : b ≤ a * b := by
        have := Int.mul_le_mul_of_nonneg_right ha (show 0 ≤ b by omega)
        omega
      have e2 : upM a b = a * b := by
        unfold upM
        rw [show min b 2147483648 = b by omega]
        omega
      rw [e2]
      have h5 : a * b * c = b * c * a := by rw [Int.mul_comm (b * c) a, Int.mul_assoc]
      rw [← h5] at h
      generalize a * b = p at *
      unfold upM
      by_cases h3 : c < 2147483648
      · rw [show min c 2147483648 = c by omega]
        omega
      · rw [show min c 2147483648 = 2147483648 by omega]
        omega
theorem each_count_top {ax ay az bx by' bz : Int} (h : (2147483648 : Int) ≤ eachN ax ay az bx by' bz) : countS ax ay az bx by' bz = 2147483648 := by
  by_cases hz : countS ax ay az bx by' bz = 0
  · rw [eachN, if_pos hz] at h
    omega
  · have hbad : (badS ax bx || badS ay by' || badS az bz) = false := by
      rw [← Bool.not_eq_true]
      intro h
      exact hz (by rw [countS, h]; rfl)
    have hb := hbad
    simp only [Bool.or_eq_false_iff] at hb
    have gx := badS_false.1 hb.1.1
    have gy := badS_false.1 hb.1.2
    have gz := badS_false.1 hb.2
    rw [eachN, if_neg hz, Int.natCast_mul, Int.natCast_mul] at h
    rw [countS, hbad]
    show upM (upM (upM 1 (bx - ax + 1)) (by' - ay + 1)) (bz - az + 1) = _
    have l1 : (lenS ax bx : Int) = bx - ax + 1 := by unfold lenS; omega
    have l2 : (lenS ay by' : Int) = by' - ay + 1 := by unfold lenS; omega
    have l3 : (lenS az bz : Int) = bz - az + 1 := by unfold lenS; omega
    rw [l1, l2, l3] at h
    exact upM_prod (by omega) (by omega) (by omega) h

/-- A list of places in their order. -/
def inOrd {N : Nat} (pre : List (Fin N)) : Prop := pre = (List.finRange N).take pre.length
theorem inOrd_snoc {N : Nat} {pre : List (Fin N)} {x : Fin N} (h : inOrd (pre ++ [x])) : inOrd pre ∧ x.val = pre.length := by
  unfold inOrd at h ⊢
  rw [List.length_append, List.length_singleton] at h
  have hl : pre.length + 1 ≤ N := by
    have := congrArg List.length h
    rw [List.length_append, List.length_singleton, List.length_take, List.length_finRange] at this
    omega
  rw [← finRange_take (by omega)] at h
  obtain ⟨h1, h2⟩ := List.append_inj' h rfl
  refine ⟨h1, ?_⟩
  have := List.cons.inj h2
  rw [this.1]
theorem inOrd_nil {N : Nat} : inOrd ([] : List (Fin N)) := rfl
theorem inOrd_take {N k : Nat} : inOrd ((List.finRange N).take k) := by
  unfold inOrd
  rw [List.length_take, List.length_finRange]
  by_cases h : k ≤ N
  · rw [Nat.min_eq_left h]
  · rw [Nat.min_eq_right (by omega), List.take_of_length_le (by simp; omega), List.take_of_length_le (by simp)]
theorem inOrd_all {N : Nat} : inOrd (List.finRange N) := by
  unfold inOrd
  rw [List.length_finRange, List.take_of_length_le (by simp)]
end Go.Proofs.Ythjbapjmlkbeoaa
