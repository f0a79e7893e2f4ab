/- (*chunk.Chunk).Counts: how many cells each kind has. -/
import Derived.Test.YtnppdhaphnemfaaChk
namespace Go.Proofs.Ytnppdhaphnemfaa
open Go.RowKit
set_option linter.unusedVariables false
set_option linter.unusedSimpArgs false

/-- How many of the first n cells are k. -/
def cnt (f : Nat → Int) (k : Int) : Nat → Int
  | 0 => 0
  | n + 1 => cnt f k n + if f n = k then 1 else 0
def cntL (f : Nat → Int) (n : Nat) : List Int := (List.range 17).map fun (k : Nat) => cnt f (k : Int) n
theorem cntL_length (f : Nat → Int) (n : Nat) : (cntL f n).length = 17 := by rw [cntL, List.length_map, List.length_range]
theorem cntL_get (f : Nat → Int) (n k : Nat) (hk : k < 17) : (cntL f n).getD k 0 = cnt f k n := by
  rw [cntL, List.getD_eq_getElem?_getD, List.getElem?_map, List.getElem?_range hk]
  rfl
theorem cnt_range (f : Nat → Int) (k : Int) : ∀ n : Nat, 0 ≤ cnt f k n ∧ cnt f k n ≤ n
  | 0 => by simp [cnt]
  | n + 1 => by
    have := cnt_range f k n
    rw [cnt]
    split <;> omega
theorem cntL_step (f : Nat → Int) (n : Nat) (h0 : 0 ≤ f n) (h1 : f n ≤ 16) : cntL f (n + 1) = (cntL f n).set (f n).toNat (cnt f (f n) n + 1) := by
  apply List.ext_getElem?
  intro i
  by_cases hi : i < 17
  · rw [List.getElem?_set]
    have h2 : ∀ m, (cntL f m)[i]? = some (cnt f (i : Int) m) := fun m => by
      rw [cntL, List.getElem?_map, List.getElem?_range hi]
      rfl
    rw [h2, h2, cntL_length]
    by_cases hk : (f n).toNat = i
    · rw [if_pos hk, if_pos (by omega)]
      have : f n = (i : Int) := by omega
      rw [cnt, if_pos this, this]
    · rw [if_neg hk, cnt, if_neg (by omega), Int.add_zero]
  · rw [List.getElem?_eq_none (by rw [cntL_length]; omega), List.getElem?_eq_none (by rw [List.length_set, cntL_length]; omega)]

theorem u8_looks : (Try.prog.info? 5).map (fun (i : TypeInfo) => i.size) = some 1 := by kernel_rfl
theorem run_index_cells {cs : Array Value} {i : Nat} {f : Int} (W : World) (h : cs[i]? = some (.int .u8 f)) (hs : cs.size = 32768) (hi : i < 32768) : (Instr.index 58 (.agg cs) (.int .i64 (i : Int))).run Try.prog W = .ok (.int .u8 f) W := by
  obtain ⟨j, hj, hj1⟩ := Option.map_eq_some_iff.1 u8_looks
  have h2 : (0 : Int) ≤ (i : Int) ∧ (i : Int) < ((32768 : Nat) : Int) := by omega
  simp [Instr.index, asIntOf, run_underlying Try.underlying58, sizeOf, typeInfo, hj, hj1, h2, part, isAgg, run_underlying Try.underlying5, h]
  intro h3
  omega

theorem make_counts (W : World) : (Instr.makeSlice 31 (.int .i64 17) (.int .i64 17)).run Try.prog W = .ok (.slice (some ⟨W.heap.size, 0, none⟩) 17 17) (W.alloc (.cells (madeCells #[.int .i64 0] 17) 3)) := by kernel_rfl

set_option maxRecDepth 20000 in
set_option maxHeartbeats 1000000 in
theorem chunk_Counts (b : Nat) (f : Nat → Int) (w : World) (h : Chk w b f) :
    Calls Try.prog 15 #[.pointer (some ⟨b, 0, none⟩)] w fun e w' => ∃ v, e = .returned v ∧ w'.ownsRow w.heap.size 3 1 v 17 (ints .i64 (cntL f 32768)) ∧ Kp [] w w' := by
  obtain ⟨⟨cs, hbk, hsz, hcs⟩, hrg⟩ := h
  have HB : Hid (Bk w b 60 cs) := hbk
  have HZ := Lib.hid hsz
  have HCS := Lib.hid hcs
  have HR := Lib.hid hrg
  have hmk := make_counts
  clear hbk hsz hcs hrg
  go_enter Try.func15, Try.ntmps15
  go_wp2_with (refine wpList_load_row rfl 58 (.tmp 9) rfl b rfl _ cs (0, 0) _ (HB.out.alloc _) Try.underlying58 rfl (by rw [HZ.out]; exact cells_size) ?_)
  have hz17 : ints .i64 (cntL f 0) = (madeCells #[.int .i64 0] 17).toList := by
    have h0 : cntL f 0 = List.replicate 17 0 := rfl
    rw [h0, toList_madeCells_one]
    simp [ints]
  have hown0 : (w.alloc (.cells (madeCells #[.int .i64 0] 17) 3)).ownsRow w.heap.size 3 1 (.slice (some ⟨w.heap.size, 0, none⟩) 17 17) 17 (ints .i64 (cntL f 0)) := by
    rw [hz17]
    exact World.ownsRow_lit (base := w.heap.size) (size := 1) w (madeCells #[.int .i64 0] 17) 17 (Nat.le_refl _) (by simp [maxLen]) (by rw [size_madeCells])
  have HOWN := Lib.hid hown0
  clear hz17 hown0 hmk
  go_loopw [11] (fun i wr => ∃ n : Nat, i = .int .i64 n ∧ (n : Int) ≤ 32768 ∧ wr.ownsRow w.heap.size 3 1 (.slice (some ⟨w.heap.size, 0, none⟩) 17 17) 17 (ints .i64 (cntL f n)) ∧ Kp [] w wr) (fun i _ => (32768 - intOf i).toNat)
  case atStart => exact ⟨0, rfl, by omega, HOWN.out, (Kp.refl _ _).alloc _⟩
  case round =>
    obtain ⟨n, rfl, hn, hown, hk⟩ := hrel
    by_cases hlt : (n : Int) < 32768
    · have hix := run_index_cells wr (HCS.out n (by omega)) HZ.out (by omega)
      obtain ⟨r0, r1⟩ := HR.out n (by omega)
      have HST := Lib.hid (cntL_step f n r0 r1)
      obtain ⟨c0, c1⟩ := cnt_range f (f n) n
      obtain ⟨q, hq⟩ := Int.eq_ofNat_of_zero_le r0
      have hq17 : q < 17 := by omega
      have hcell : wr.cell? ⟨w.heap.size, q, none⟩ = some (.int .i64 (cnt f (f n) n)) := by
        rw [hown.cellAt q (by omega), ints_get _ _ _ (by rw [cntL_length]; exact hq17), cntL_get f n q hq17, ← hq]
      have hfr := hown.frozenAt q
      have HQ := Lib.hid hq
      generalize cnt f (f n) n = c at *
      rw [hq] at hix r0 r1
      rw [hq, Int.toNat_natCast] at HST
      have HIX := Lib.hid hix
      have hqi : (q : Int) < 17 := by omega
      clear hq hix hq17
      go_wp2_with ((with_reducible refine gate_op (.index 58 (.tmp 10) (.tmp 11)) rfl ?_); refine wpList_index_of rfl 58 (.tmp 10) (.tmp 11) rfl rfl rfl HIX.out ?_)
      all_goals
        go_roundw
        case rel =>
          refine ⟨n + 1, by go_num, by omega, ?_, hk.setCell (.inr (Nat.le_refl _)) _⟩
          have h5 := hown.stored q (.int .i64 (c + 1))
          have h6 : ints .i64 (cntL f (n + 1)) = (ints .i64 (cntL f n)).set q (.int .i64 (c + 1)) := by
            rw [HST.out]
            simp [ints, List.map_set]
          rw [h6]
          exact h5.1
        case measure => simp [intOf] <;> omega
    · have hne : n = 32768 := by omega
      subst hne
      go_wp2
      go_ret
      exact ⟨_, rfl, hown, hk⟩
end Go.Proofs.Ytnppdhaphnemfaa
