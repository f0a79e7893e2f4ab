/- The walk of the reference's Near. -/
import Derived.Test.YthjbapjmlkbeoaaNear
namespace Go.Proofs.Ythjbapjmlkbeoaa
open Go.RowKit
set_option linter.unusedVariables false
set_option linter.unusedSimpArgs false

theorem near_count {r : Int} (h0 : 0 ≤ r) (h8 : r ≤ 8) : eachN (-r) 0 (-r) r 0 r = lenS (-r) r * lenS (-r) r := by
  have g1 : badS (-r) r = false := badS_false.2 (by omega)
  have g2 : badS 0 0 = false := badS_false.2 (by omega)
  have hp := partS_bd (k := 3) (show goodTo (-r) 0 (-r) r 0 r 3 from ⟨fun _ => g1, fun _ => g2, fun _ => g1⟩)
  have : countS (-r) 0 (-r) r 0 r ≠ 0 := by
    rw [countS, g1, g2]
    have := hp.1
    show upM (upM (upM 1 _) _) _ ≠ 0
    have e : partS (-r) 0 (-r) r 0 r 3 = upM (upM (upM 1 (r - -r + 1)) (0 - 0 + 1)) (r - -r + 1) := rfl
    rw [e] at this
    omega
  rw [eachN, if_neg this, show lenS 0 0 = 1 from rfl, Nat.one_mul]

theorem nearP_at {cx cz r : Int} {s b c : Nat} (hs : lenS (-r) r = s) (hb : b < s) (hc : c < s) : nearP cx cz r (b * s + c) = (wrap64 (cx + (-r + (c : Int))), wrap64 (cz + (-r + (b : Int)))) := by
  rw [nearP, eachX, eachZ, hs, place_x hc, place_z hc, Nat.mod_eq_of_lt hb]

set_option maxRecDepth 100000 in
set_option maxHeartbeats 4000000 in
theorem ref_Near (cx cz r : Int) (w : World) :
    Calls Try.prog 23 #[.agg #[.int .i64 cx, .int .i64 cz], .int .i64 r] w fun e W' => ∃ v, e = .returned v ∧ W'.ownsRow w.heap.size 27 2 v (nearL cx cz r).length (ats (nearL cx cz r)) ∧ Kp [] w W' := by
  by_cases hr : 0 ≤ r ∧ r ≤ 8
  · obtain ⟨h0, h8⟩ := hr
    have hT : wthn r 0 8 = true := wthn_true.2 ⟨h0, h8⟩
    obtain ⟨s, hs⟩ : ∃ s, lenS (-r) r = s := ⟨_, rfl⟩
    have hsr : (s : Int) = 2 * r + 1 := by rw [← hs, lenS]; omega
    have HL : Hid (nearL cx cz r = (List.range (s * s)).map (nearP cx cz r)) := by
      show _ = _
      rw [nearL, hT, if_pos rfl, near_count h0 h8, hs]
    have HS := Lib.hid hs
    have HSR := Lib.hid hsr
    have t1 : decide (r < 0) = false := by simpa using h0
    have t2 : decide (8 < r) = false := by simpa using h8
    obtain ⟨i0, hi, hz0, hz1, hz2⟩ := info_parts at_info
    clear hs hT
    go_enter Try.func23, Try.ntmps23
    go_wp2
    have bC := Bk.new w 27 #[.int .i64 cx, .int .i64 cz]
    go_loopw [5, 6] (fun v z wr => ∃ b : Nat, b ≤ s ∧ z = .int .i64 (-r + (b : Int)) ∧ Hid (wr.ownsRow (w.heap.size + 1) 27 2 v (b * s) (ats ((List.range (b * s)).map (nearP cx cz r)))) ∧ Hid (Kp [] (w.alloc (.cells #[.int .i64 cx, .int .i64 cz] 27)) wr)) (fun _ z _ => (r + 1 - intOf z).toNat)
    case atStart => exact ⟨0, by omega, by simp, by show World.ownsRow _ _ _ _ _ _ _; simpa [ats] using World.ownsRow_nil _ _ _ _, Kp.refl _ _⟩
    case round =>
      obtain ⟨b, hb, rfl, HR, HK⟩ := hrel
      have hsr := HSR.out
      by_cases hlt : b < s
      · have hle : -r + (b : Int) ≤ r := by omega
        have HB := Lib.hid hlt
        have HLE := Lib.hid hle
        clear hb hsr
        go_wp2
        clear hle hlt
        go_loopw [5, 7] (fun v x wr => ∃ c : Nat, c ≤ s ∧ x = .int .i64 (-r + (c : Int)) ∧ Hid (wr.ownsRow (w.heap.size + 1) 27 2 v (b * s + c) (ats ((List.range (b * s + c)).map (nearP cx cz r)))) ∧ Hid (Kp [] (w.alloc (.cells #[.int .i64 cx, .int .i64 cz] 27)) wr)) (fun _ x _ => (r + 1 - intOf x).toNat)
        case atStart => exact ⟨0, by omega, by simp, HR, HK⟩
        case round =>
          clear HR HK
          obtain ⟨c, hc, rfl, HR, HK⟩ := hrel
          have hsr := HSR.out
          by_cases hlt2 : c < s
          · have hle2 : -r + (c : Int) ≤ r := by omega
            have hn : b * s + c < 289 := by
              have h1 : b ≤ 16 := by have := HB.out; omega
              have h2 : b * s ≤ 16 * 17 := Nat.mul_le_mul h1 (by omega)
              omega
            have hcs := HK.out.size
            have c0 := (bC.kp HK.out (by simp)).cell 0
            have c1 := (bC.kp HK.out (by simp)).cell 1
            simp at c0 c1 hcs
            have HP := Lib.hid (nearP_at (cx := cx) (cz := cz) HS.out HB.out hlt2)
            have HC := Lib.hid hlt2
            clear hc hsr hlt2
            go_wp2_with (at_builtin; refine wpList_append_rd (wr.alloc (.cells #[.int .i64 (wrap64 (cx + (-r + (c : Int)))), .int .i64 (wrap64 (cz + (-r + (b : Int))))] 27)) rfl (.tmp 28) (.tmp 38) 40 27 rfl (w.heap.size + 1) (.agg #[.int .i64 0, .int .i64 0]) 2 16 Try.underlying40 at_info rfl (by omega) u5 (b * s + c) (ats ((List.range (b * s + c)).map (nearP cx cz r))) rfl (HR.out.alloc _) (some ⟨wr.heap.size, 0, none⟩) 1 1 _ [.int .i64 (wrap64 (cx + (-r + (c : Int)))), .int .i64 (wrap64 (cz + (-r + (b : Int))))] rfl rfl (rd_mark wr #[.int .i64 (wrap64 (cx + (-r + (c : Int)))), .int .i64 (wrap64 (cz + (-r + (b : Int))))] 27 (0, 0)) (by simp [Value.oneCell']) (by omega) (by omega) (by simp; omega) ?_; intro v4 w4 hown4 hg4 _; have HO4 := Lib.hid hown4; have HG4 := Lib.hid hg4; clear hown4 hg4)
            clear hle2 hn hcs c0 c1
            go_roundw
            case rel =>
              refine ⟨c + 1, HC.out, by rw [Value.int.injEq]; exact ⟨rfl, by omega⟩, ?_, ?_⟩
              · show World.ownsRow _ _ _ _ _ _ _
                have h5 := HO4.out
                rwa [show b * s + (c + 1) = b * s + c + 1 from rfl, List.range_succ, List.map_append, List.map_cons, List.map_nil, ats_snoc, HP.out]
              · exact (HK.out.alloc _).own (HR.out.alloc _) (by simp) HG4.out
            case measure => have h6 := HC.out; have h7 := HSR.out; simp [intOf]; omega
          · have hcs : c = s := by omega
            subst hcs
            have hge : decide (-r + (c : Int) ≤ r) = false := by simp; omega
            have hle := HLE.out
            have HR2 : Hid (wr.ownsRow (w.heap.size + 1) 27 2 u5 ((b + 1) * c) (ats ((List.range ((b + 1) * c)).map (nearP cx cz r)))) := by
              show World.ownsRow _ _ _ _ _ _ _
              rw [Nat.add_mul, Nat.one_mul]
              exact HR.out
            clear hc hsr hlt2
            go_wp2
            go_roundw
            case rel => exact ⟨b + 1, HB.out, by rw [Value.int.injEq]; exact ⟨rfl, by omega⟩, HR2, HK⟩
            case measure => simp [intOf]; omega
      · have hcs : b = s := by omega
        subst hcs
        have hge : decide (-r + (b : Int) ≤ r) = false := by simp; omega
        clear hb hsr hlt
        go_wp2
        go_ret
        refine ⟨_, rfl, ?_, ((Kp.refl [] w).alloc _).then HK.out⟩
        rw [HL.out, List.length_map, List.length_range]
        exact HR.out.mono (by omega)
  · have HL : Hid (nearL cx cz r = []) := by
      show _ = _
      rw [nearL, wthn_false.2 hr]
      rfl
    by_cases h1 : r < 0
    · clear hr
      go_enter Try.func23, Try.ntmps23
      go_wp2
      go_ret
      refine ⟨_, rfl, ?_, (Kp.refl [] w).alloc _⟩
      rw [HL.out]
      exact World.ownsRow_nil _ _ _ _
    · have h2 : 8 < r := by omega
      have t1 : decide (r < 0) = false := by simpa using h1
      clear hr h1
      go_enter Try.func23, Try.ntmps23
      go_wp2
      go_ret
      refine ⟨_, rfl, ?_, (Kp.refl [] w).alloc _⟩
      rw [HL.out]
      exact World.ownsRow_nil _ _ _ _
end Go.Proofs.Ythjbapjmlkbeoaa
