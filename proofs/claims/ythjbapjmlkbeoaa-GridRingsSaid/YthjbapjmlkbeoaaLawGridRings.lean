/- GridRings: the chunks near one are all that are so near, each once. -/
import Derived.Deep.DeepCutAuto
import Derived.Deep.CutBlock
import Derived.Test.YthjbapjmlkbeoaaHas
import Derived.Test.YthjbapjmlkbeoaaAwake04
import Derived.Test.YthjbapjmlkbeoaaFlat
import Derived.Test.YthjbapjmlkbeoaaRef04Near
namespace Go.Proofs.Ythjbapjmlkbeoaa
open Go.RowKit
set_option linter.unusedVariables false
set_option linter.unusedSimpArgs false

/-- How many of the first k places hold this pair. -/
def cntP (f : Nat → Int × Int) (d : Int × Int) : Nat → Nat
  | 0 => 0
  | k + 1 => cntP f d k + if f k = d then 1 else 0
theorem cntP_one {f : Nat → Int × Int} {d : Int × Int} {N j0 : Nat} (h : ∀ j, j < N → (f j = d ↔ j = j0)) : ∀ k, k ≤ N → cntP f d k = if j0 < k then 1 else 0
  | 0, _ => by simp [cntP]
  | k + 1, hk => by
    rw [cntP, cntP_one h k (by omega)]
    by_cases e : f k = d
    · have := (h k (by omega)).1 e
      subst this
      rw [if_pos e, if_neg (by omega), if_pos (by omega)]
    · have : k ≠ j0 := fun e' => e ((h k (by omega)).2 e')
      rw [if_neg e]
      by_cases h1 : j0 < k
      · rw [if_pos h1, if_pos (by omega)]
      · rw [if_neg h1, if_neg (by omega)]
theorem cntP_none {f : Nat → Int × Int} {d : Int × Int} {N : Nat} (h : ∀ j, j < N → f j ≠ d) : ∀ k, k ≤ N → cntP f d k = 0
  | 0, _ => rfl
  | k + 1, hk => by rw [cntP, cntP_none h k (by omega), if_neg (h k (by omega))]
theorem cntP_le (f : Nat → Int × Int) (d : Int × Int) : ∀ k, cntP f d k ≤ k
  | 0 => Nat.le_refl _
  | k + 1 => by
    have := cntP_le f d k
    rw [cntP]
    split <;> omega

/-- A near place, written out. -/
theorem nearP_out {cx cz r : Int} {j : Nat} (h0 : 0 ≤ r) (h8 : r ≤ 8) (hx : -1099511627776 ≤ cx ∧ cx ≤ 1099511627776) (hz : -1099511627776 ≤ cz ∧ cz ≤ 1099511627776) {s : Nat} (hs : lenS (-r) r = s) (hj : j < s * s) :
    nearP cx cz r j = (cx + (-r + ((j % s : Nat) : Int)), cz + (-r + ((j / s : Nat) : Int))) ∧ j % s < s ∧ j / s < s := by
  have hsr : (s : Int) = 2 * r + 1 := by rw [← hs, lenS]; omega
  have hs0 : 0 < s := by omega
  have h1 : j % s < s := Nat.mod_lt _ hs0
  have h2 : j / s < s := (Nat.div_lt_iff_lt_mul hs0).2 hj
  refine ⟨?_, h1, h2⟩
  rw [nearP, eachX, eachZ, hs, Nat.mod_eq_of_lt h2]
  generalize j % s = p at *
  generalize j / s = q at *
  have e1 : wrap64 (cx + (-r + (p : Int))) = cx + (-r + (p : Int)) := by unfold wrap64; omega
  have e2 : wrap64 (cz + (-r + (q : Int))) = cz + (-r + (q : Int)) := by unfold wrap64; omega
  rw [e1, e2]

theorem ring_in {cx cz r x z : Int} (h0 : 0 ≤ r) (h8 : r ≤ 8) (hx : -1099511627776 ≤ cx ∧ cx ≤ 1099511627776) (hz : -1099511627776 ≤ cz ∧ cz ≤ 1099511627776) {s : Nat} (hs : lenS (-r) r = s)
    (h : (-r ≤ x ∧ x ≤ r) ∧ -r ≤ z ∧ z ≤ r) : cntP (nearP cx cz r) (cx + x, cz + z) (s * s) = 1 := by
  have hsr : (s : Int) = 2 * r + 1 := by rw [← hs, lenS]; omega
  obtain ⟨p, hp⟩ := Int.eq_ofNat_of_zero_le (show 0 ≤ x + r by omega)
  obtain ⟨q, hq⟩ := Int.eq_ofNat_of_zero_le (show 0 ≤ z + r by omega)
  have hps : p < s := by omega
  have hqs : q < s := by omega
  have hlt : q * s + p < s * s := by
    have : (q + 1) * s ≤ s * s := Nat.mul_le_mul_right _ hqs
    rw [Nat.add_mul] at this
    omega
  rw [cntP_one (N := s * s) (j0 := q * s + p) (fun j hj => ?_) _ (Nat.le_refl _), if_pos hlt]
  obtain ⟨e, h1, h2⟩ := nearP_out h0 h8 hx hz hs hj
  rw [e]
  have hd : s * (j / s) + j % s = j := Nat.div_add_mod j s
  constructor
  · intro h3
    have h4 := Prod.mk.inj h3
    have h5 : j % s = p := by omega
    have h6 : j / s = q := by omega
    rw [← hd, h5, h6, Nat.mul_comm]
  · rintro rfl
    rw [place_x hps, place_z hps]
    rw [Prod.mk.injEq]
    omega
theorem ring_out {cx cz r x z : Int} (h0 : 0 ≤ r) (h8 : r ≤ 8) (hx : -1099511627776 ≤ cx ∧ cx ≤ 1099511627776) (hz : -1099511627776 ≤ cz ∧ cz ≤ 1099511627776) {s : Nat} (hs : lenS (-r) r = s)
    (h : ¬ ((-r ≤ x ∧ x ≤ r) ∧ -r ≤ z ∧ z ≤ r)) : cntP (nearP cx cz r) (cx + x, cz + z) (s * s) = 0 := by
  have hsr : (s : Int) = 2 * r + 1 := by rw [← hs, lenS]; omega
  refine cntP_none (N := s * s) (fun j hj => ?_) _ (Nat.le_refl _)
  obtain ⟨e, h1, h2⟩ := nearP_out h0 h8 hx hz hs hj
  rw [e]
  clear e hj
  generalize j % s = p at *
  generalize j / s = q at *
  intro h3
  obtain ⟨h4, h5⟩ := Prod.mk.inj h3
  omega

theorem ats_get : ∀ (l : List (Int × Int)) (j : Nat), j < l.length → (ats l)[j * 2]? = some (.int .i64 (l.getD j (0, 0)).1) ∧ (ats l)[j * 2 + 1]? = some (.int .i64 (l.getD j (0, 0)).2)
  | [], j, h => by simp at h
  | p :: r, 0, _ => ⟨rfl, rfl⟩
  | p :: r, j + 1, h => by
    have := ats_get r j (by simpa using h)
    have e : ats (p :: r) = .int .i64 p.1 :: .int .i64 p.2 :: ats r := rfl
    rw [e, show (j + 1) * 2 = j * 2 + 2 by omega]
    simpa using this
theorem nearL_get {cx cz r : Int} {s : Nat} (hL : nearL cx cz r = (List.range (s * s)).map (nearP cx cz r)) {j : Nat} (hj : j < s * s) : (nearL cx cz r).getD j (0, 0) = nearP cx cz r j := by
  rw [hL, List.getD_eq_getElem?_getD, List.getElem?_map, List.getElem?_range hj]
  rfl

set_option maxRecDepth 20000 in
set_option maxHeartbeats 8000000 in
theorem GridRings_walk (w : World) (cx cz r x z : Int) :
    Calls Try.prog 8 #[.agg #[.int .i64 cx, .int .i64 cz], .int .i64 r, .int .i64 x, .int .i64 z] w fun e w' => e = .returned (.bool true) ∧ Kp [] w w' := by
  go_enter Try.func8, Try.ntmps8
  go_wp2_with fail
  refine (awake _).mono ?_
  rintro e w1 ⟨rfl, k1⟩
  obtain ⟨b0, b1⟩ := box2 k1 (by simp)
  have K1 : Hid (Kp [] w w1) := ((Kp.refl [] w).alloc _).then k1
  clear k1
  have hc : (r < 0) ∨ (0 ≤ r ∧ 8 < r) ∨ ((0 ≤ r ∧ r ≤ 8) ∧ cx < -1099511627776) ∨ ((0 ≤ r ∧ r ≤ 8) ∧ -1099511627776 ≤ cx ∧ 1099511627776 < cx) ∨ ((0 ≤ r ∧ r ≤ 8) ∧ (-1099511627776 ≤ cx ∧ cx ≤ 1099511627776) ∧ cz < -1099511627776) ∨ ((0 ≤ r ∧ r ≤ 8) ∧ (-1099511627776 ≤ cx ∧ cx ≤ 1099511627776) ∧ -1099511627776 ≤ cz ∧ 1099511627776 < cz) ∨
    ((0 ≤ r ∧ r ≤ 8) ∧ (-1099511627776 ≤ cx ∧ cx ≤ 1099511627776) ∧ (-1099511627776 ≤ cz ∧ cz ≤ 1099511627776) ∧ (x < -20 ∨ (-20 ≤ x ∧ 20 < x) ∨ ((-20 ≤ x ∧ x ≤ 20) ∧ z < -20) ∨ ((-20 ≤ x ∧ x ≤ 20) ∧ -20 ≤ z ∧ 20 < z) ∨ ((-20 ≤ x ∧ x ≤ 20) ∧ -20 ≤ z ∧ z ≤ 20))) := by omega
  rcases hc with h | ⟨h1, h⟩ | ⟨⟨h1, h2⟩, h⟩ | ⟨⟨h1, h2⟩, h3, h⟩ | ⟨⟨h1, h2⟩, ⟨h3, h4⟩, h⟩ | ⟨⟨h1, h2⟩, ⟨h3, h4⟩, h5, h⟩ | ⟨⟨h1, h2⟩, ⟨h3, h4⟩, ⟨h5, h6⟩, hcc⟩
  · go_wp2_with fail
    go_ret
    exact ⟨rfl, K1.out⟩
  all_goals have t1 : decide (r < 0) = false := by simpa using h1
  · go_wp2_with fail
    go_ret
    exact ⟨rfl, K1.out⟩
  all_goals have t2 : decide (8 < r) = false := by simpa using h2
  · go_wp2_with fail
    go_ret
    exact ⟨rfl, K1.out⟩
  all_goals have t3 : decide (cx < -1099511627776) = false := by simpa using h3
  · go_wp2_with fail
    go_ret
    exact ⟨rfl, K1.out⟩
  all_goals have t4 : decide (1099511627776 < cx) = false := by simpa using h4
  · go_wp2_with fail
    go_ret
    exact ⟨rfl, K1.out⟩
  all_goals have t5 : decide (cz < -1099511627776) = false := by simpa using h5
  · go_wp2_with fail
    go_ret
    exact ⟨rfl, K1.out⟩
  have t6 : decide (1099511627776 < cz) = false := by simpa using h6
  rcases hcc with h | ⟨h7, h⟩ | ⟨⟨h7, h8⟩, h⟩ | ⟨⟨h7, h8⟩, h9, h⟩ | ⟨⟨h7, h8⟩, h9, h10⟩
  · go_wp2_with fail
    go_ret
    exact ⟨rfl, K1.out⟩
  all_goals have t7 : decide (x < -20) = false := by simpa using h7
  · go_wp2_with fail
    go_ret
    exact ⟨rfl, K1.out⟩
  all_goals have t8 : decide (20 < x) = false := by simpa using h8
  · go_wp2_with fail
    go_ret
    exact ⟨rfl, K1.out⟩
  all_goals have t9 : decide (z < -20) = false := by simpa using h9
  · go_wp2_with fail
    go_ret
    exact ⟨rfl, K1.out⟩
  have t10 : decide (20 < z) = false := by simpa using h10
  obtain ⟨s, hs⟩ : ∃ s, lenS (-r) r = s := ⟨_, rfl⟩
  have hsr : (s : Int) = 2 * r + 1 := by rw [← hs, lenS]; omega
  have HL : Hid (nearL cx cz r = (List.range (s * s)).map (nearP cx cz r)) := by
    show _ = _
    rw [nearL, wthn_true.2 ⟨h1, h2⟩, if_pos rfl, near_count h1 h2, hs]
  have HIn := Lib.hid (fun h => ring_in (x := x) (z := z) h1 h2 ⟨h3, h4⟩ ⟨h5, h6⟩ hs h)
  have HOut := Lib.hid (fun h => ring_out (x := x) (z := z) h1 h2 ⟨h3, h4⟩ ⟨h5, h6⟩ hs h)
  have hll : (nearL cx cz r).length = s * s := by rw [HL.out, List.length_map, List.length_range]
  have hN : s * s ≤ 289 := Nat.mul_le_mul (show s ≤ 17 by omega) (show s ≤ 17 by omega)
  have hN1 : 1 ≤ s * s := Nat.mul_pos (by omega) (by omega)
  have hN2 : ((s * s : Nat) : Int) = (2 * r + 1) * (2 * r + 1) := by rw [Int.natCast_mul, hsr]
  have HN2 := Lib.hid hN2
  have HLL := Lib.hid hll
  clear hs hsr hN2 hll
  go_wp2_with fail
  refine (grid_Near _ _ _ _).mono ?_
  rintro e w2 ⟨v, rfl, hown, k2⟩
  rw [HLL.out] at hown
  obtain ⟨g, cap, rfl, hgb, hgl⟩ := hown.form (by omega)
  have HOW := Lib.hid hown
  have c0 := k2.cell b0 (by simp)
  have c1 := k2.cell b1 (by simp)
  have K2 : Hid (Kp [] w w2) := K1.out.then k2
  clear k2 b0 b1 hown K1
  generalize s * s = N at *
  go_upto_block 0 with (fail)
  have hd2 := has2 (has_new2 w2 27 (.int .i64 (cx + x)) (.int .i64 (cz + z)))
  have HOW4 := Lib.hid (HOW.out.alloc (.cells #[.int .i64 (cx + x), .int .i64 (cz + z)] 27))
  have hsz : w2.heap.size < (w2.alloc (.cells #[.int .i64 (cx + x), .int .i64 (cz + z)] 27)).heap.size := by simp
  have K4 : Hid (Kp [] w (w2.alloc (.cells #[.int .i64 (cx + x), .int .i64 (cz + z)] 27))) := K2.out.alloc _
  generalize w2.alloc (.cells #[.int .i64 (cx + x), .int .i64 (cz + z)] 27) = w4 at *
  generalize w2.heap.size = gd at *
  obtain ⟨d0, d1⟩ := hd2
  have D0 := Lib.hid d0
  have D1 := Lib.hid d1
  clear c0 c1 HOW K2 hgl d0 d1
  go_cut [12] (fun n wx => n = .int .i64 ((cntP (nearP cx cz r) (cx + x, cz + z) N : Nat) : Int) ∧ Hid (Kp [] w wx))
  case first =>
    go_wp2_with fail
    go_loopw [12, 13] (fun n i wr => ∃ k : Nat, k ≤ N ∧ i = .int .i64 k ∧ n = .int .i64 ((cntP (nearP cx cz r) (cx + x, cz + z) k : Nat) : Int) ∧ Hid (Kp [] w4 wr)) (fun _ i _ => (N - intOf i).toNat)
    case atStart => exact ⟨0, by omega, rfl, rfl, Kp.refl _ _⟩
    case round =>
      obtain ⟨k, hk, rfl, rfl, HK⟩ := hrel
      by_cases hlt : k < N
      · have hg1 := HOW4.out.cells (g := g) rfl (k * 2) _ ((ats_get (nearL cx cz r) k (by rw [HLL.out]; exact hlt)).1)
        have hg2 := HOW4.out.cells (g := g) rfl (k * 2 + 1) _ ((ats_get (nearL cx cz r) k (by rw [HLL.out]; exact hlt)).2)
        have e1 := HK.out.cell hg1 (by simp)
        have e2 := HK.out.cell hg2 (by simp)
        have e3 := HK.out.cell D0.out (by simp)
        have e4 := HK.out.cell D1.out (by simp)
        rw [add_plain, Nat.zero_add] at e1 e2
        have hcs : Hid (cntP (nearP cx cz r) (cx + x, cz + z) (k + 1) = cntP (nearP cx cz r) (cx + x, cz + z) k + if (nearL cx cz r).getD k (0, 0) = (cx + x, cz + z) then 1 else 0) := by
          show _ = _
          rw [cntP]
          have : (nearL cx cz r).getD k (0, 0) = nearP cx cz r k := by
            rw [HL.out, List.getD_eq_getElem?_getD, List.getElem?_map, List.getElem?_range hlt]
            rfl
          rw [this]
        have hcl := cntP_le (nearP cx cz r) (cx + x, cz + z) k
        generalize (nearL cx cz r).getD k (0, 0) = q at *
        obtain ⟨qx, qz⟩ := q
        have hlt' := Lib.hid hlt
        clear hg1 hg2 hk
        by_cases hq : qx = cx + x ∧ qz = cz + z
        · obtain ⟨rfl, rfl⟩ := hq
          have HC : Hid (cntP (nearP cx cz r) (cx + x, cz + z) (k + 1) = cntP (nearP cx cz r) (cx + x, cz + z) k + 1) := by
            have := hcs.out
            rwa [if_pos rfl] at this
          clear hcs
          generalize cntP (nearP cx cz r) (cx + x, cz + z) k = cn at *
          go_wp2_with fail
          go_quiet (fail)
          go_wp2_with fail
          go_roundw
          case rel => exact ⟨k + 1, hlt'.out, by go_num, by rw [HC.out]; go_num, HK.out.drewN _⟩
          case measure => simp [intOf]; omega
        · have HC : Hid (cntP (nearP cx cz r) (cx + x, cz + z) (k + 1) = cntP (nearP cx cz r) (cx + x, cz + z) k) := by
            have := hcs.out
            rwa [if_neg (fun e => hq ⟨(Prod.mk.inj e).1, (Prod.mk.inj e).2⟩), Nat.add_zero] at this
          clear hcs
          have HQ := Lib.hid hq
          generalize cntP (nearP cx cz r) (cx + x, cz + z) k = cn at *
          have h3 : qx ≠ cx + x ∨ (qx = cx + x ∧ qz ≠ cz + z) := by omega
          clear hq
          rcases h3 with h | ⟨rfl, h⟩
          all_goals
            go_wp2_with fail
            go_quiet (fail)
            go_wp2_with fail
            go_roundw
            case rel => exact ⟨k + 1, hlt'.out, by go_num, by rw [HC.out], HK.out.drewN _⟩
            case measure => simp [intOf]; omega
      · have : k = N := by omega
        subst this
        clear hk hlt
        generalize cntP (nearP cx cz r) (cx + x, cz + z) k = cn at *
        go_wp2_with fail
        go_meet
        exact ⟨rfl, K4.out.then HK.out⟩
  case rest =>
    obtain ⟨rfl, HK⟩ := hcut
    clear HOW4 D0 D1 K4 HL HLL hsz
    have hcc : (x < -r) ∨ (-r ≤ x ∧ r < x) ∨ ((-r ≤ x ∧ x ≤ r) ∧ z < -r) ∨ ((-r ≤ x ∧ x ≤ r) ∧ -r ≤ z ∧ r < z) ∨ ((-r ≤ x ∧ x ≤ r) ∧ -r ≤ z ∧ z ≤ r) := by omega
    obtain ⟨cn, hcn⟩ : ∃ cn, cntP (nearP cx cz r) (cx + x, cz + z) N = cn := ⟨_, rfl⟩
    rw [hcn] at HIn HOut ⊢
    clear hcn
    rcases hcc with h | ⟨h11, h⟩ | ⟨⟨h11, h12⟩, h⟩ | ⟨⟨h11, h12⟩, h13, h⟩ | ⟨⟨h11, h12⟩, h13, h14⟩
    · obtain rfl : cn = 0 := HOut.out (by omega)
      go_wp2_with fail
      go_ret
      exact ⟨rfl, HK.out⟩
    all_goals have t11 : decide (x < -r) = false := by simpa using h11
    · obtain rfl : cn = 0 := HOut.out (by omega)
      go_wp2_with fail
      go_ret
      exact ⟨rfl, HK.out⟩
    all_goals have t12 : decide (r < x) = false := by simpa using h12
    · obtain rfl : cn = 0 := HOut.out (by omega)
      go_wp2_with fail
      go_ret
      exact ⟨rfl, HK.out⟩
    all_goals have t13 : decide (z < -r) = false := by simpa using h13
    · obtain rfl : cn = 0 := HOut.out (by omega)
      go_wp2_with fail
      go_ret
      exact ⟨rfl, HK.out⟩
    have t14 : decide (r < z) = false := by simpa using h14
    obtain rfl : cn = 1 := HIn.out (by omega)
    have hq0 : 0 ≤ (2 * r + 1) * (2 * r + 1) := by rw [← HN2.out]; omega
    have hq1 : (2 * r + 1) * (2 * r + 1) ≤ 289 := by rw [← HN2.out]; omega
    have hq2 : ((N : Int) == (2 * r + 1) * (2 * r + 1)) = true := by rw [HN2.out]; simp
    go_wp2_with fail
    go_ret
    exact ⟨rfl, HK.out⟩
end Go.Proofs.Ythjbapjmlkbeoaa
