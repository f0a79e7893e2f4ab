/- ChunkCounts: the numbers of all kinds together are all cells; one Set takes one from a kind and gives it to another. -/
import Derived.Test.YtnppdhaphnemfaaAwake06
import Derived.Test.YtnppdhaphnemfaaPlays06
namespace Go.Proofs.Ytnppdhaphnemfaa
open Go.RowKit
set_option linter.unusedVariables false
set_option linter.unusedSimpArgs false

def sumF (h : Nat → Int) : Nat → Int
  | 0 => 0
  | m + 1 => sumF h m + h m
theorem sumF_add (h k : Nat → Int) : ∀ m, sumF (fun v => h v + k v) m = sumF h m + sumF k m
  | 0 => rfl
  | m + 1 => by
    rw [sumF, sumF, sumF, sumF_add h k m]
    omega
theorem sumF_one (c : Int) : ∀ m : Nat, sumF (fun v => if c = (v : Int) then 1 else 0) m = if 0 ≤ c ∧ c < m then 1 else 0
  | 0 => by
    rw [if_neg (by omega)]
    rfl
  | m + 1 => by
    rw [sumF, sumF_one c m]
    by_cases h : c = (m : Int)
    · rw [if_pos h, if_neg (by omega), if_pos (by omega)]
      omega
    · rw [if_neg h]
      by_cases h2 : 0 ≤ c ∧ c < m
      · rw [if_pos h2, if_pos (by omega)]
        omega
      · rw [if_neg h2, if_neg (by omega)]
        omega
theorem sumF_cnt (f : Nat → Int) : ∀ N : Nat, (∀ i, i < N → 0 ≤ f i ∧ f i ≤ 16) → sumF (fun v => cnt f (v : Int) N) 17 = (N : Int)
  | 0, _ => by rfl
  | N + 1, h => by
    have e : (fun v : Nat => cnt f (v : Int) (N + 1)) = fun v : Nat => cnt f (v : Int) N + (if f N = (v : Int) then 1 else 0) := rfl
    obtain ⟨h0, h1⟩ := h N (by omega)
    rw [e, sumF_add, sumF_cnt f N (fun i hi => h i (by omega)), sumF_one, if_pos (by omega)]
    omega
theorem sumF_range (h : Nat → Int) (b : Int) (hb : ∀ v, 0 ≤ h v ∧ h v ≤ b) : ∀ m : Nat, 0 ≤ sumF h m ∧ sumF h m ≤ m * b
  | 0 => by simp [sumF]
  | m + 1 => by
    obtain ⟨h0, h1⟩ := sumF_range h b hb m
    obtain ⟨h2, h3⟩ := hb m
    rw [sumF, Int.natCast_add, Int.add_mul]
    omega
theorem cnt_put (f : Nat → Int) (i : Nat) (k v : Int) : ∀ N, i < N → cnt (fun j => if j = i then k else f j) v N = cnt f v N - (if f i = v then 1 else 0) + (if k = v then 1 else 0)
  | 0, h => by omega
  | N + 1, h => by
    have same : ∀ M, M ≤ i → cnt (fun j => if j = i then k else f j) v M = cnt f v M := by
      intro M
      induction M with
      | zero => intro _; rfl
      | succ M ih =>
        intro hM
        rw [cnt, cnt, ih (by omega), if_neg (show ¬ M = i by omega)]
    rw [cnt, cnt]
    by_cases h2 : N = i
    · subst h2
      rw [same N (Nat.le_refl _), if_pos rfl]
      omega
    · rw [cnt_put f i k v N (by omega), if_neg h2]
      omega

set_option maxRecDepth 20000 in
set_option maxHeartbeats 4000000 in
theorem ChunkCounts_walk (w : World) (A : Option Addr) (n c : Nat) (xs : List Int) (h : RowsSl w 4 A n c xs) (i : Int) (hi : I64 i) (k : Int) (hk : I64 k) :
    Calls Try.prog 4 #[.slice A n c, .int .i64 i, .int .i64 k] w fun e w' => e = .returned (.bool true) ∧ Kp [] w w' := by
  have hn : (n : Int) ≤ 140737488351232 := by have := h.small; omega
  have HP := Lib.hid (fun (w1 : World) (k : Kp [] w w1) => plays06 w1 A n c w.heap.size xs h.len (h.rd.kp0 k) k.size hn h.i64)
  clear h
  obtain ⟨i0, i1⟩ := hi
  obtain ⟨k0, k1⟩ := hk
  obtain ⟨F, hF⟩ : ∃ F, F = play06 xs (min n 400) := ⟨_, rfl⟩
  rw [← hF] at HP
  clear hF
  obtain ⟨did, hdid⟩ : ∃ did, okSet i k = did := ⟨_, rfl⟩
  have HD := Lib.hid hdid
  clear hdid
  go_enter Try.func4, Try.ntmps4
  go_wp2_with (first | (go_at_call 11; refine (awake _).mono ?_; rintro e w1 ⟨rfl, hk1⟩; have HK1 := Lib.hid hk1; clear hk1) | (go_at_call 12; refine (HP.out w1 HK1.out).mono ?_; rintro e w2 ⟨b, g, rfl, hb, hg, hc2, hr2, hk2⟩; have HC2 := Lib.hid hc2; have HK2 := Lib.hid (HK1.out.then hk2); clear hc2 hr2 hk2))
  refine (chunk_Counts b F w2 HC2.out).mono ?_
  rintro e w3 ⟨v3, rfl, hown3, hk3⟩
  have hlt2 := HC2.out.lt
  obtain ⟨ga, ca, rfl, hga, hla⟩ := hown3.form (by omega)
  have HO3 := Lib.hid hown3
  have HC3 := Lib.hid (HC2.out.kp0 hk3)
  have HK3 := Lib.hid (HK2.out.then hk3)
  have hbw := HK1.out.size
  clear hown3 hk3 HC2 HK2
  go_wp2_with fail
  refine (chunk_Get b F i w3 HC3.out).mono ?_
  rintro e w4 ⟨rfl, rfl⟩
  go_wp2_with fail
  refine (chunk_Set b F i k w3 HC3.out).mono ?_
  rintro e w4 ⟨rfl, hc4, hk4⟩
  rw [HD.out]
  have HO4 : Hid (w4.ownsRow w2.heap.size 3 1 (.slice (some ⟨ga, 0, none⟩) 17 ca) 17 (ints .i64 (cntL F 32768))) := HO3.out.kept (hk4.toGrown (row := some b) (fun x hx _ => by simp at hx; rw [hx])) (.inr (fun e => by simp [Value.ownBlock] at e; omega))
  have HC4 := Lib.hid hc4
  have HK4 := Lib.hid (HK3.out.trans hk4 (fun x hx hlt => by simp at hx; omega))
  have hsz4 := hk4.size
  clear hc4 hk4 HO3 HK3
  go_wp2_with fail
  refine (chunk_Counts b _ w4 HC4.out).mono ?_
  rintro e w5 ⟨v5, rfl, hown5, hk5⟩
  obtain ⟨gb, cb, rfl, hgb, hlb⟩ := hown5.form (by omega)
  have HO5 := Lib.hid hown5
  have HOA : Hid (w5.ownsRow w2.heap.size 3 1 (.slice (some ⟨ga, 0, none⟩) 17 ca) 17 (ints .i64 (cntL F 32768))) := HO4.out.kept (hk5.toGrown (row := none) (fun x hx => by cases hx)) (.inr (fun e => by cases e))
  have HK5 := Lib.hid (HK4.out.then hk5)
  clear hown5 hk5 HO4 HK4
  have HSUM : Hid (sumF (fun v => cnt (setS F i k) (v : Int) 32768) 17 = 32768) := sumF_cnt (setS F i k) 32768 HC4.out.rng
  have HSR := Lib.hid (sumF_range (fun v => cnt (setS F i k) (v : Int) 32768) 32768 (fun v => cnt_range _ _ _))
  have HREL : Hid (∀ v : Nat, cnt (setS F i k) (v : Int) 32768 = if did then cnt F (v : Int) 32768 - (if getS F i = (v : Int) then 1 else 0) + (if k = (v : Int) then 1 else 0) else cnt F (v : Int) 32768) := fun v => by
    have hd := HD.out
    cases did with
    | true =>
      have h1 := of_decide_eq_true hd
      rw [setS, hd, if_pos rfl, cnt_put F i.toNat k v 32768 (by omega), if_pos rfl, getS, if_pos h1.1]
    | false => rw [setS, hd, if_neg (by simp), if_neg (by simp)]
  have HCA : Hid (∀ v : Nat, v < 17 → w5.cell? ⟨ga, v, none⟩ = some (.int .i64 (cnt F (v : Int) 32768))) := fun v hv => by
    rw [HOA.out.cellAt v (by omega), ints_get _ _ _ (by rw [cntL_length]; exact hv), cntL_get _ _ _ hv]
  have HCB : Hid (∀ v : Nat, v < 17 → w5.cell? ⟨gb, v, none⟩ = some (.int .i64 (cnt (setS F i k) (v : Int) 32768))) := fun v hv => by
    rw [HO5.out.cellAt v (by omega), ints_get _ _ _ (by rw [cntL_length]; exact hv), cntL_get _ _ _ hv]
  have HRA : Hid (∀ v : Nat, 0 ≤ cnt F (v : Int) 32768 ∧ cnt F (v : Int) 32768 ≤ 32768) := fun v => cnt_range _ _ _
  obtain ⟨al, hal⟩ : ∃ al : Nat → Int, al = fun v : Nat => cnt F (v : Int) 32768 := ⟨_, rfl⟩
  obtain ⟨be, hbe⟩ : ∃ be : Nat → Int, be = fun v : Nat => cnt (setS F i k) (v : Int) 32768 := ⟨_, rfl⟩
  have HRE2 : Hid (∀ v : Nat, be v = if did then al v - (if getS F i = (v : Int) then 1 else 0) + (if k = (v : Int) then 1 else 0) else al v) := by rw [hal, hbe]; exact HREL
  have HCA2 : Hid (∀ v : Nat, v < 17 → w5.cell? ⟨ga, v, none⟩ = some (.int .i64 (al v))) := by rw [hal]; exact HCA
  have HCB2 : Hid (∀ v : Nat, v < 17 → w5.cell? ⟨gb, v, none⟩ = some (.int .i64 (be v))) := by rw [hbe]; exact HCB
  have HRA2 : Hid (∀ v : Nat, 0 ≤ al v ∧ al v ≤ 32768) := by rw [hal]; exact HRA
  have HSUM2 : Hid (sumF be 17 = 32768) := by rw [hbe]; exact HSUM
  have HSR2 : Hid (∀ m : Nat, 0 ≤ sumF be m ∧ sumF be m ≤ m * 32768) := by rw [hbe]; exact HSR
  clear hal hbe HREL HCA HCB HRA HSUM HSR HO5 HOA HC4 HC3 HD
  generalize getS F i = p at *
  go_wp2_with fail
  go_loop [15, 16] (fun s v => ∃ m : Nat, v = .int .i64 m ∧ s = .int .i64 (sumF be m) ∧ (m : Int) ≤ 17) (fun _ v => (17 - intOf v).toNat)
  case atStart => exact ⟨0, rfl, rfl, by omega⟩
  case round =>
    obtain ⟨m, rfl, rfl, hm⟩ := hrel
    by_cases hlt : (m : Int) < 17
    · have ca := HCA2.out m (by omega)
      have cb := HCB2.out m (by omega)
      obtain ⟨a0, a1⟩ := HRA2.out m
      obtain ⟨s0, s1⟩ := HSR2.out m
      have hre := HRE2.out m
      have HSS : Hid (sumF be (m + 1) = sumF be m + be m) := rfl
      generalize sumF be m = sm at *
      generalize al m = x at *
      generalize be m = y at *
      have hs2 : sm ≤ 17 * 32768 := by omega
      clear s1
      cases did with
      | false =>
        rw [if_neg (by simp)] at hre
        subst hre
        go_wp2
        all_goals
          go_round
          case rel => exact ⟨m + 1, by go_num, (by rw [HSS.out]; try (congr 1; omega)), by omega⟩
          case measure => simp [intOf] <;> omega
      | true =>
        rw [if_pos rfl] at hre
        by_cases h1 : p = (m : Int)
        · by_cases h2 : k = (m : Int)
          · rw [if_pos h1, if_pos h2] at hre
            have b1 : ((m : Int) == p) = true := by rw [h1]; simp
            have b2 : ((m : Int) == k) = true := by rw [h2]; simp
            subst hre
            clear h1 h2
            go_wp2
            all_goals
              go_round
              case rel => exact ⟨m + 1, by go_num, (by rw [HSS.out]; try (congr 1; omega)), by omega⟩
              case measure => simp [intOf] <;> omega
          · rw [if_pos h1, if_neg h2] at hre
            have b1 : ((m : Int) == p) = true := by rw [h1]; simp
            have b2 : ((m : Int) == k) = false := beq_eq_false_iff_ne.2 (fun e => h2 e.symm)
            subst hre
            clear h1 h2
            go_wp2
            all_goals
              go_round
              case rel => exact ⟨m + 1, by go_num, (by rw [HSS.out]; try (congr 1; omega)), by omega⟩
              case measure => simp [intOf] <;> omega
        · by_cases h2 : k = (m : Int)
          · rw [if_neg h1, if_pos h2] at hre
            have b1 : ((m : Int) == p) = false := beq_eq_false_iff_ne.2 (fun e => h1 e.symm)
            have b2 : ((m : Int) == k) = true := by rw [h2]; simp
            subst hre
            clear h1 h2
            go_wp2
            all_goals
              go_round
              case rel => exact ⟨m + 1, by go_num, (by rw [HSS.out]; try (congr 1; omega)), by omega⟩
              case measure => simp [intOf] <;> omega
          · rw [if_neg h1, if_neg h2] at hre
            have b1 : ((m : Int) == p) = false := beq_eq_false_iff_ne.2 (fun e => h1 e.symm)
            have b2 : ((m : Int) == k) = false := beq_eq_false_iff_ne.2 (fun e => h2 e.symm)
            subst hre
            clear h1 h2
            go_wp2
            all_goals
              go_round
              case rel => exact ⟨m + 1, by go_num, (by rw [HSS.out]; try (congr 1; omega)), by omega⟩
              case measure => simp [intOf] <;> omega
    · have hne : m = 17 := by omega
      subst hne
      have hs := HSUM2.out
      go_wp2
      go_ret
      exact ⟨rfl, HK5.out⟩
end Go.Proofs.Ytnppdhaphnemfaa
