/- The walks of grid.sides, Count, Inside. -/
import Derived.Test.YthjbapjmlkbeoaaGrid
namespace Go.Proofs.Ythjbapjmlkbeoaa
open Go.RowKit
set_option linter.unusedVariables false
set_option linter.unusedSimpArgs false

/-- A box as a value. -/
def boxV (ax ay az bx by' bz : Int) : Value := .agg #[.int .i64 ax, .int .i64 ay, .int .i64 az, .int .i64 bx, .int .i64 by', .int .i64 bz]
def sidesV (ax ay az bx by' bz : Int) : Value := .agg #[.int .i64 ax, .int .i64 bx, .int .i64 ay, .int .i64 by', .int .i64 az, .int .i64 bz]

theorem grid_sides (ax ay az bx by' bz : Int) (w : World) :
    Calls Try.prog 34 #[boxV ax ay az bx by' bz] w fun e w' => e = .returned (sidesV ax ay az bx by' bz) ∧ Kp [] w w' := by
  unfold boxV sidesV
  go_enter Try.func34, Try.ntmps34
  go_wp2
  exact bodyPost_ret (v := .agg #[.int .i64 ax, .int .i64 bx, .int .i64 ay, .int .i64 by', .int .i64 az, .int .i64 bz]) (by simp [results, Try.results34, go_sem]) rfl ⟨rfl, ((Kp.refl [] w).alloc _).alloc _⟩

def badS (a b : Int) : Bool := decide (a > b) || decide (a < -1099511627776) || decide (b > 1099511627776)
theorem badS_false {a b : Int} : badS a b = false ↔ a ≤ b ∧ -1099511627776 ≤ a ∧ b ≤ 1099511627776 := by
  unfold badS
  simp only [Bool.or_eq_false_iff, decide_eq_false_iff_not]
  omega
def upM (n s : Int) : Int := min (n * min s 2147483648) 2147483648
def countS (ax ay az bx by' bz : Int) : Int :=
  if badS ax bx || badS ay by' || badS az bz then 0 else upM (upM (upM 1 (bx - ax + 1)) (by' - ay + 1)) (bz - az + 1)
theorem upM_bd {n s : Int} (hn : 1 ≤ n) (hs : 1 ≤ s) : 1 ≤ upM n s ∧ upM n s ≤ 2147483648 := by
  unfold upM
  have : 1 ≤ n * min s 2147483648 := by
    have h := Int.mul_le_mul hn (show 1 ≤ min s 2147483648 by omega) (by omega) (by omega)
    omega
  omega

/-- One round: the number behind the side (a, b). -/
theorem round_num {n a b : Int} (hn : 1 ≤ n ∧ n ≤ 2147483648) (h : a ≤ b ∧ -1099511627776 ≤ a ∧ b ≤ 1099511627776) :
    (if 2147483648 < wrap64 (n * if 2147483648 < b - a + 1 then 2147483648 else b - a + 1) then 2147483648 else wrap64 (n * if 2147483648 < b - a + 1 then 2147483648 else b - a + 1)) = upM n (b - a + 1) := by
  have e1 : (if 2147483648 < b - a + 1 then 2147483648 else b - a + 1) = min (b - a + 1) 2147483648 := by split <;> omega
  rw [e1]
  have h1 : n * min (b - a + 1) 2147483648 ≤ 2147483648 * 2147483648 := Int.mul_le_mul hn.2 (by omega) (by omega) (by omega)
  have h2 : 0 ≤ n * min (b - a + 1) 2147483648 := Int.mul_nonneg (by omega) (by omega)
  unfold upM
  generalize n * min (b - a + 1) 2147483648 = m at *
  have e2 : wrap64 m = m := by unfold wrap64; omega
  rw [e2]
  split <;> omega

theorem run_index_side (a b c d e f : Int) (k : Nat) (hk : k < 3) (W : World) : (Instr.index 50 (.agg #[.int .i64 a, .int .i64 b, .int .i64 c, .int .i64 d, .int .i64 e, .int .i64 f]) (.int .i64 (k : Int))).run Try.prog W =
    .ok (.agg #[.int .i64 (if k = 0 then a else if k = 1 then c else e), .int .i64 (if k = 0 then b else if k = 1 then d else f)]) W := by
  have hk3 : k = 0 ∨ k = 1 ∨ k = 2 := by omega
  rcases hk3 with rfl | rfl | rfl <;> rfl

def partS (ax ay az bx by' bz : Int) : Nat → Int
  | 0 => 1
  | 1 => upM 1 (bx - ax + 1)
  | 2 => upM (upM 1 (bx - ax + 1)) (by' - ay + 1)
  | _ => upM (upM (upM 1 (bx - ax + 1)) (by' - ay + 1)) (bz - az + 1)

/-- The first k sides are good. -/
def goodTo (ax ay az bx by' bz : Int) (k : Nat) : Prop := (0 < k → badS ax bx = false) ∧ (1 < k → badS ay by' = false) ∧ (2 < k → badS az bz = false)
theorem partS_bd {ax ay az bx by' bz : Int} {k : Nat} (h : goodTo ax ay az bx by' bz k) : 1 ≤ partS ax ay az bx by' bz k ∧ partS ax ay az bx by' bz k ≤ 2147483648 := by
  have h0 : 0 < k → 1 ≤ bx - ax + 1 := fun hk => by have := badS_false.1 (h.1 hk); omega
  have h1 : 1 < k → 1 ≤ by' - ay + 1 := fun hk => by have := badS_false.1 (h.2.1 hk); omega
  have h2 : 2 < k → 1 ≤ bz - az + 1 := fun hk => by have := badS_false.1 (h.2.2 hk); omega
  match k with
  | 0 => exact ⟨Int.le_refl _, by show (1 : Int) ≤ _; omega⟩
  | 1 => exact upM_bd (by omega) (h0 (by omega))
  | 2 => exact upM_bd (upM_bd (by omega) (h0 (by omega))).1 (h1 (by omega))
  | k + 3 => exact upM_bd (upM_bd (upM_bd (by omega) (h0 (by omega))).1 (h1 (by omega))).1 (h2 (by omega))

set_option maxRecDepth 20000 in
set_option maxHeartbeats 4000000 in
theorem grid_Count (ax ay az bx by' bz : Int) (w : World) :
    Calls Try.prog 24 #[boxV ax ay az bx by' bz] w fun e w' => e = .returned (.int .i64 (countS ax ay az bx by' bz)) ∧ Kp [] w w' := by
  have HS := Lib.hid (grid_sides ax ay az bx by' bz)
  unfold boxV sidesV at HS
  unfold boxV
  go_enter Try.func24, Try.ntmps24
  go_wp2_with (go_at_call 34; refine (HS.out _).mono ?_; clear HS; rintro e w1 ⟨rfl, hk1⟩)
  have HK1 : Hid (Kp [] w w1) := ((Kp.refl [] w).alloc _).then hk1
  clear hk1
  go_loopw [3, 8] (fun n i wr => ∃ k : Nat, k ≤ 3 ∧ i = .int .i64 k ∧ n = .int .i64 (partS ax ay az bx by' bz k) ∧ Hid (Kp [] w wr) ∧ Hid (goodTo ax ay az bx by' bz k)) (fun _ i _ => (3 - intOf i).toNat)
  case atStart => exact ⟨0, by omega, rfl, rfl, HK1, fun h => by omega, fun h => by omega, fun h => by omega⟩
  case round =>
    obtain ⟨k, hk, rfl, rfl, HK, HG⟩ := hrel
    have hk3 : k = 0 ∨ k = 1 ∨ k = 2 ∨ k = 3 := by omega
    clear hk
    rcases hk3 with rfl | rfl | rfl | rfl
    · cases hb : badS ax bx
      · have hbd := badS_false.1 hb
        obtain ⟨hb1, hb2, hb3⟩ := hbd
        have hB := Lib.hid hb
        clear hb
        have t1 : decide (bx < ax) = false := by simpa using hb1
        have t2 : decide (ax < -1099511627776) = false := by simpa using hb2
        have t3 : decide (1099511627776 < bx) = false := by simpa using hb3
        obtain ⟨n, hn⟩ : ∃ n, partS ax ay az bx by' bz 0 = n := ⟨_, rfl⟩
        have HN : Hid (partS ax ay az bx by' bz 0 = n) := hn
        rw [hn]
        clear hn
        go_wp2_with ((with_reducible refine gate_op (.index 50 (.tmp 7) (.tmp 8)) rfl ?_); refine wpList_index_of rfl 50 (.tmp 7) (.tmp 8) rfl rfl rfl (run_index_side ax bx ay by' az bz 0 (by omega) wr) ?_)
        go_roundw
        case rel =>
          refine ⟨1, by omega, by go_num, ?_, ?_, ⟨fun _ => hB.out, fun h => by omega, fun h => by omega⟩⟩
          · have hp := partS_bd HG.out
            rw [HN.out] at hp
            rw [round_num hp ⟨hb1, hb2, hb3⟩]
            rw [show partS ax ay az bx by' bz 1 = upM (partS ax ay az bx by' bz 0) (bx - ax + 1) from rfl, HN.out]
          · exact HK.out.alloc _
        case measure => simp [intOf]
      · have HC : Hid (countS ax ay az bx by' bz = 0) := by
          show countS ax ay az bx by' bz = 0
          rw [countS, hb]; simp
        by_cases t1 : ax ≤ bx
        · by_cases t2 : -1099511627776 ≤ ax
          · have t3 : 1099511627776 < bx := by
              rcases Int.lt_or_le 1099511627776 bx with h | h
              · exact h
              · rw [badS_false.2 ⟨t1, t2, by omega⟩] at hb
                cases hb
            have t4 : decide (bx < ax) = false := by simpa using t1
            have t5 : decide (ax < -1099511627776) = false := by simpa using t2
            go_wp2_with ((with_reducible refine gate_op (.index 50 (.tmp 7) (.tmp 8)) rfl ?_); refine wpList_index_of rfl 50 (.tmp 7) (.tmp 8) rfl rfl rfl (run_index_side ax bx ay by' az bz 0 (by omega) wr) ?_)
            go_ret
            exact ⟨ret_int HC.out.symm, HK.out.alloc _⟩
          · have t4 : decide (bx < ax) = false := by simpa using t1
            have t5 : ax < -1099511627776 := by omega
            go_wp2_with ((with_reducible refine gate_op (.index 50 (.tmp 7) (.tmp 8)) rfl ?_); refine wpList_index_of rfl 50 (.tmp 7) (.tmp 8) rfl rfl rfl (run_index_side ax bx ay by' az bz 0 (by omega) wr) ?_)
            go_ret
            exact ⟨ret_int HC.out.symm, HK.out.alloc _⟩
        · have t4 : bx < ax := by omega
          go_wp2_with ((with_reducible refine gate_op (.index 50 (.tmp 7) (.tmp 8)) rfl ?_); refine wpList_index_of rfl 50 (.tmp 7) (.tmp 8) rfl rfl rfl (run_index_side ax bx ay by' az bz 0 (by omega) wr) ?_)
          go_ret
          exact ⟨ret_int HC.out.symm, HK.out.alloc _⟩
    · cases hb : badS ay by'
      · have hbd := badS_false.1 hb
        obtain ⟨hb1, hb2, hb3⟩ := hbd
        have hB := Lib.hid hb
        clear hb
        have t1 : decide (by' < ay) = false := by simpa using hb1
        have t2 : decide (ay < -1099511627776) = false := by simpa using hb2
        have t3 : decide (1099511627776 < by') = false := by simpa using hb3
        obtain ⟨n, hn⟩ : ∃ n, partS ax ay az bx by' bz 1 = n := ⟨_, rfl⟩
        have HN : Hid (partS ax ay az bx by' bz 1 = n) := hn
        rw [hn]
        clear hn
        go_wp2_with ((with_reducible refine gate_op (.index 50 (.tmp 7) (.tmp 8)) rfl ?_); refine wpList_index_of rfl 50 (.tmp 7) (.tmp 8) rfl rfl rfl (run_index_side ax bx ay by' az bz 1 (by omega) wr) ?_)
        go_roundw
        case rel =>
          refine ⟨2, by omega, by go_num, ?_, ?_, ⟨fun _ => HG.out.1 (by omega), fun _ => hB.out, fun h => by omega⟩⟩
          · have hp := partS_bd HG.out
            rw [HN.out] at hp
            rw [round_num hp ⟨hb1, hb2, hb3⟩]
            rw [show partS ax ay az bx by' bz 2 = upM (partS ax ay az bx by' bz 1) (by' - ay + 1) from rfl, HN.out]
          · exact HK.out.alloc _
        case measure => simp [intOf]
      · have HC : Hid (countS ax ay az bx by' bz = 0) := by
          show countS ax ay az bx by' bz = 0
          rw [countS, hb]; simp
        by_cases t1 : ay ≤ by'
        · by_cases t2 : -1099511627776 ≤ ay
          · have t3 : 1099511627776 < by' := by
              rcases Int.lt_or_le 1099511627776 by' with h | h
              · exact h
              · rw [badS_false.2 ⟨t1, t2, by omega⟩] at hb
                cases hb
            have t4 : decide (by' < ay) = false := by simpa using t1
            have t5 : decide (ay < -1099511627776) = false := by simpa using t2
            go_wp2_with ((with_reducible refine gate_op (.index 50 (.tmp 7) (.tmp 8)) rfl ?_); refine wpList_index_of rfl 50 (.tmp 7) (.tmp 8) rfl rfl rfl (run_index_side ax bx ay by' az bz 1 (by omega) wr) ?_)
            go_ret
            exact ⟨ret_int HC.out.symm, HK.out.alloc _⟩
          · have t4 : decide (by' < ay) = false := by simpa using t1
            have t5 : ay < -1099511627776 := by omega
            go_wp2_with ((with_reducible refine gate_op (.index 50 (.tmp 7) (.tmp 8)) rfl ?_); refine wpList_index_of rfl 50 (.tmp 7) (.tmp 8) rfl rfl rfl (run_index_side ax bx ay by' az bz 1 (by omega) wr) ?_)
            go_ret
            exact ⟨ret_int HC.out.symm, HK.out.alloc _⟩
        · have t4 : by' < ay := by omega
          go_wp2_with ((with_reducible refine gate_op (.index 50 (.tmp 7) (.tmp 8)) rfl ?_); refine wpList_index_of rfl 50 (.tmp 7) (.tmp 8) rfl rfl rfl (run_index_side ax bx ay by' az bz 1 (by omega) wr) ?_)
          go_ret
          exact ⟨ret_int HC.out.symm, HK.out.alloc _⟩
    · cases hb : badS az bz
      · have hbd := badS_false.1 hb
        obtain ⟨hb1, hb2, hb3⟩ := hbd
        have hB := Lib.hid hb
        clear hb
        have t1 : decide (bz < az) = false := by simpa using hb1
        have t2 : decide (az < -1099511627776) = false := by simpa using hb2
        have t3 : decide (1099511627776 < bz) = false := by simpa using hb3
        obtain ⟨n, hn⟩ : ∃ n, partS ax ay az bx by' bz 2 = n := ⟨_, rfl⟩
        have HN : Hid (partS ax ay az bx by' bz 2 = n) := hn
        rw [hn]
        clear hn
        go_wp2_with ((with_reducible refine gate_op (.index 50 (.tmp 7) (.tmp 8)) rfl ?_); refine wpList_index_of rfl 50 (.tmp 7) (.tmp 8) rfl rfl rfl (run_index_side ax bx ay by' az bz 2 (by omega) wr) ?_)
        go_roundw
        case rel =>
          refine ⟨3, by omega, by go_num, ?_, ?_, ⟨fun _ => HG.out.1 (by omega), fun _ => HG.out.2.1 (by omega), fun _ => hB.out⟩⟩
          · have hp := partS_bd HG.out
            rw [HN.out] at hp
            rw [round_num hp ⟨hb1, hb2, hb3⟩]
            rw [show partS ax ay az bx by' bz 3 = upM (partS ax ay az bx by' bz 2) (bz - az + 1) from rfl, HN.out]
          · exact HK.out.alloc _
        case measure => simp [intOf]
      · have HC : Hid (countS ax ay az bx by' bz = 0) := by
          show countS ax ay az bx by' bz = 0
          rw [countS, hb]; simp
        by_cases t1 : az ≤ bz
        · by_cases t2 : -1099511627776 ≤ az
          · have t3 : 1099511627776 < bz := by
              rcases Int.lt_or_le 1099511627776 bz with h | h
              · exact h
              · rw [badS_false.2 ⟨t1, t2, by omega⟩] at hb
                cases hb
            have t4 : decide (bz < az) = false := by simpa using t1
            have t5 : decide (az < -1099511627776) = false := by simpa using t2
            go_wp2_with ((with_reducible refine gate_op (.index 50 (.tmp 7) (.tmp 8)) rfl ?_); refine wpList_index_of rfl 50 (.tmp 7) (.tmp 8) rfl rfl rfl (run_index_side ax bx ay by' az bz 2 (by omega) wr) ?_)
            go_ret
            exact ⟨ret_int HC.out.symm, HK.out.alloc _⟩
          · have t4 : decide (bz < az) = false := by simpa using t1
            have t5 : az < -1099511627776 := by omega
            go_wp2_with ((with_reducible refine gate_op (.index 50 (.tmp 7) (.tmp 8)) rfl ?_); refine wpList_index_of rfl 50 (.tmp 7) (.tmp 8) rfl rfl rfl (run_index_side ax bx ay by' az bz 2 (by omega) wr) ?_)
            go_ret
            exact ⟨ret_int HC.out.symm, HK.out.alloc _⟩
        · have t4 : bz < az := by omega
          go_wp2_with ((with_reducible refine gate_op (.index 50 (.tmp 7) (.tmp 8)) rfl ?_); refine wpList_index_of rfl 50 (.tmp 7) (.tmp 8) rfl rfl rfl (run_index_side ax bx ay by' az bz 2 (by omega) wr) ?_)
          go_ret
          exact ⟨ret_int HC.out.symm, HK.out.alloc _⟩
    · have HE : Hid (partS ax ay az bx by' bz 3 = countS ax ay az bx by' bz) := by
        show _ = _
        rw [countS, HG.out.1 (by omega), HG.out.2.1 (by omega), HG.out.2.2 (by omega)]
        rfl
      go_wp2
      go_ret
      exact ⟨ret_int HE.out, HK.out⟩
end Go.Proofs.Ythjbapjmlkbeoaa
