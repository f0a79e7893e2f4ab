/- (*chunk.Chunk).Diff: where another one has others. -/
import Derived.BigQuiet
import Derived.Test.YtnppdhaphnemfaaChkCounts
import Derived.Test.YtnppdhaphnemfaaChkBytes
namespace Go.Proofs.Ytnppdhaphnemfaa
open Go.RowKit
set_option linter.unusedVariables false
set_option linter.unusedSimpArgs false

/-- The first n places where two differ. -/
def diffTo (f g : Nat → Int) : Nat → List Int
  | 0 => []
  | n + 1 => if f n = g n then diffTo f g n else diffTo f g n ++ [(n : Int)]
theorem diffTo_length (f g : Nat → Int) : ∀ n, (diffTo f g n).length ≤ n
  | 0 => Nat.le_refl _
  | n + 1 => by
    have := diffTo_length f g n
    rw [diffTo]
    split
    · omega
    · rw [List.length_append, List.length_singleton]
      omega
theorem diffTo_same (f g : Nat → Int) : ∀ n, (∀ i, i < n → f i = g i) → diffTo f g n = []
  | 0, _ => rfl
  | n + 1, h => by rw [diffTo, if_pos (h n (by omega)), diffTo_same f g n (fun i hi => h i (by omega))]
theorem diffTo_nil (f g : Nat → Int) : ∀ n, diffTo f g n = [] → ∀ i, i < n → f i = g i
  | 0, _, i, hi => by omega
  | n + 1, h, i, hi => by
    rw [diffTo] at h
    split at h
    · rename_i h1
      rcases Nat.lt_or_ge i n with h2 | h2
      · exact diffTo_nil f g n h i h2
      · obtain rfl : i = n := by omega
        exact h1
    · simp at h
theorem diffTo_swap (f g : Nat → Int) : ∀ n, diffTo g f n = diffTo f g n
  | 0 => rfl
  | n + 1 => by
    rw [diffTo, diffTo, diffTo_swap f g n]
    by_cases h : f n = g n
    · rw [if_pos h, if_pos h.symm]
    · rw [if_neg h, if_neg (fun e => h e.symm)]

/-! ### `*c == *d` -/
def sameN (f g : Nat → Int) (l : List Nat) : Bool := l.all fun i => f i == g i
theorem sameN_range (f g : Nat → Int) (n : Nat) : sameN f g (List.range n) = true ↔ ∀ i, i < n → f i = g i := by
  simp [sameN, List.all_eq_true]

theorem u8_under : Try.prog.underlying 5 = some (.int .u8) := Try.underlying5
theorem run_part_u8 {cs : Array Value} {i : Nat} {v : Int} (W : World) (h : cs[i]? = some (.int .u8 v)) : (part 5 cs i).run Try.prog W = .ok (.int .u8 v) W := by
  simp [part, isAgg, run_underlying u8_under, h]

theorem u8_is : ∃ i, Try.prog.info? 5 = some i ∧ i.size = 1 := Option.map_eq_some_iff.1 u8_looks
theorem run_eqItems (f g : Nat → Int) (cs ds : Array Value) (d : Nat) (W : World) : ∀ l : List Nat, (∀ i ∈ l, cs[i]? = some (.int .u8 (f i)) ∧ ds[i]? = some (.int .u8 (g i))) →
    (Op.eqItems (d + 1) 5 1 cs ds l).run Try.prog W = .ok (sameN f g l) W
  | [], _ => by simp [Op.eqItems, sameN]
  | i :: l, h => by
    obtain ⟨h1, h2⟩ := h i (by simp)
    have ih := run_eqItems f g cs ds d W l (fun j hj => h j (by simp [hj]))
    have e : sameN f g (i :: l) = (f i == g i && sameN f g l) := rfl
    rw [Op.eqItems, Nat.mul_one, Sem.run_bind, run_part_u8 W h1, Result.andThen_ok, Sem.run_bind, run_part_u8 W h2, Result.andThen_ok, Sem.run_bind, run_equalIn_int W d 5 .u8 .u8 _ _ u8_under, Result.andThen_ok, e]
    cases hb : (f i == g i)
    · simp
    · simp [ih]

theorem cells_under : Try.prog.underlying 58 = some (.array 32768 5) := Try.underlying58
theorem run_eq_cells (f g : Nat → Int) (cs ds : Array Value) (d : Nat) (W : World) (hc : ∀ i, i < 32768 → cs[i]? = some (.int .u8 (f i))) (hd : ∀ i, i < 32768 → ds[i]? = some (.int .u8 (g i))) :
    (Op.equalIn (d + 2) 58 (.agg cs) (.agg ds)).run Try.prog W = .ok (sameN f g (List.range 32768)) W := by
  obtain ⟨i, hi, h1⟩ := u8_is
  have h2 : Try.prog.cellsOf 5 = 1 := by
    unfold Program.cellsOf
    rw [hi]
    exact h1
  rw [run_equalIn_array W (d + 1) cs ds cells_under hi, h2]
  exact run_eqItems f g cs ds d W _ (fun j hj => ⟨hc j (List.mem_range.1 hj), hd j (List.mem_range.1 hj)⟩)

theorem chunk_fields : (Try.prog.fieldsOf 60).toList.map (fun f => (f.name, f.type, f.offset)) = [("c", 58, 0)] := by kernel_rfl
theorem chunk_stood : Try.prog.stoodInHeld 60 = false := by kernel_rfl
theorem chunk_under : Try.prog.underlying 60 = some (.struct (Try.prog.fieldsOf 60)) := by kernel_rfl
theorem run_part_cells {cs : Array Value} (W : World) (h : cs.size = 32768) : (part 58 cs 0).run Try.prog W = .ok (.agg cs) W := by
  obtain ⟨i, hi, h1⟩ := Option.map_eq_some_iff.1 cells_size
  have h2 : (sizeOf 58).run Try.prog W = .ok 32768 W := by simp [sizeOf, typeInfo, hi, h1]
  have h3 : (isAgg 58).run Try.prog W = .ok true W := by simp [isAgg, run_underlying cells_under]
  rw [part, Sem.run_bind, h3, Result.andThen_ok, if_pos rfl, Sem.run_bind, h2, Result.andThen_ok, Sem.run_pure, Nat.zero_add, ← h, Array.extract_size]
theorem run_eq_chunk (f g : Nat → Int) (cs ds : Array Value) (W : World) (hsc : cs.size = 32768) (hsd : ds.size = 32768) (hc : ∀ i, i < 32768 → cs[i]? = some (.int .u8 (f i))) (hd : ∀ i, i < 32768 → ds[i]? = some (.int .u8 (g i))) :
    (binOp .eql 60 (.agg cs) (.agg ds)).run Try.prog W = .ok (.bool (sameN f g (List.range 32768))) W := by
  have hf := chunk_fields
  have h0 := run_equalIn_struct W 9999 60 cs ds chunk_under chunk_stood
  generalize (Try.prog.fieldsOf 60).toList = fs at *
  match fs, hf with
  | [fd], hf =>
    simp only [List.map_cons, List.map_nil, List.cons.injEq, Prod.mk.injEq, and_true] at hf
    obtain ⟨e1, e2, e3⟩ := hf
    have h4 : (Op.eqFields 9999 cs ds [fd]).run Try.prog W = .ok (sameN f g (List.range 32768)) W := by
      rw [Op.eqFields, if_pos (by rw [e1]; decide), e2, e3, Sem.run_bind, run_part_cells W hsc, Result.andThen_ok, Sem.run_bind, run_part_cells W hsd, Result.andThen_ok, Sem.run_bind, run_eq_cells f g cs ds 9997 W hc hd, Result.andThen_ok]
      cases sameN f g (List.range 32768) <;> simp [Op.eqFields]
    rw [run_eql_struct, h0, h4, Result.andThen_ok]
  | [], hf => simp at hf
  | _ :: _ :: _, hf => simp at hf
theorem chunk_eqGuard : Try.prog.eqGuardType Try.prog.depth 60 = false := by kernel_rfl

/-! ### The steps of a region that only reads -/
theorem quiet_ok {P : Program} {o : Oper} {a : Act} {C : World → Prop} {K : Act → Prop} (v : Value) (h : ∀ w, C w → (execOp a.eval o).run P w = .ok (.value v) w) (hk : K (a.put o.dst v)) : o.quiet P a C K :=
  ⟨v, fun w hw => by unfold Oper.quietAt; rw [h w hw]; exact ⟨rfl, rfl⟩, hk⟩
theorem quiet_load_row {P : Program} {o : Oper} {a : Act} {w0 : World} {K : Act → Prop} (ty : TypeId) (x : Operand) (ho : o.op = .load ty x)
    (g : Nat) (hx : a.eval x = .pointer (some ⟨g, 0, none⟩)) (t : TypeId) (cs : Array Value) (hg : Bk w0 g t cs) (d : TypeDesc)
    (hu : P.underlying ty = some d) (hd : (match d with | .struct _ | .array _ _ => true | _ => false) = true) (hi : (P.info? ty).map (·.size) = some cs.size)
    (h : K (a.put o.dst (.agg cs))) : o.quiet P a (fun w => ∃ n, w = w0.drewN n) K :=
  quiet_ok (.agg cs) (fun w hw => by
    obtain ⟨n, rfl⟩ := hw
    unfold execOp
    simp only [ho, hx, Instr.loadAt, Instr.sureAddr, Sem.run_bind, Sem.run_pure, Result.andThen_ok, run_loadVar_row (w0.drewN n) g t ty cs (0, 0) d hg hu hd hi]) h
theorem quiet_eq_chunk {o : Oper} {a : Act} {C : World → Prop} {K : Act → Prop} (x y : Operand) (r : TypeId) (ho : o.op = .binOp .eql 60 x y r) (f g : Nat → Int) (cs ds : Array Value)
    (hx : a.eval x = .agg cs) (hy : a.eval y = .agg ds) (hsc : cs.size = 32768) (hsd : ds.size = 32768) (hc : ∀ i, i < 32768 → cs[i]? = some (.int .u8 (f i))) (hd : ∀ i, i < 32768 → ds[i]? = some (.int .u8 (g i)))
    (b : Bool) (hb : sameN f g (List.range 32768) = b) (h : K (a.put o.dst (.bool b))) : o.quiet Try.prog a C K :=
  quiet_ok (.bool b) (fun w hw => by
    unfold execOp
    simp only [ho, hx, hy, Sem.run_bind, Sem.run_pure, Result.andThen_ok, run_eqGuard_agg w .eql 60 x y cs ds chunk_eqGuard, run_eq_chunk f g cs ds w hsc hsd hc hd, hb]) h

theorem int_info : (Try.prog.info? 3).map (fun i => (i.zero, i.size, i.bytes)) = some (some (.int .i64 0), 1, 8) := by kernel_rfl
theorem follows_mixed : Try.prog.follows .mixedOrders = true := by kernel_rfl

set_option maxHeartbeats 1000000 in
theorem chunk_Diff_nil (b : Nat) (w : World) : Calls Try.prog 26 #[.pointer (some ⟨b, 0, none⟩), .pointer none] w fun e w' => e = .returned (.slice none 0 0) ∧ Kp [] w w' := by
  go_enter Try.func26, Try.ntmps26
  go_wp2_with fail
  go_quiet (fail)
  go_wp2
  go_ret
  exact ⟨rfl, (Kp.refl _ _).drewN _⟩

set_option maxRecDepth 20000 in
set_option maxHeartbeats 2000000 in
theorem chunk_Diff (b g : Nat) (f h : Nat → Int) (w : World) (hc : Chk w b f) (hd : Chk w g h) : Calls Try.prog 26 #[.pointer (some ⟨b, 0, none⟩), .pointer (some ⟨g, 0, none⟩)] w fun e w' =>
    ∃ v, e = .returned v ∧ w'.ownsRow w.heap.size 3 1 v (diffTo f h 32768).length (ints .i64 (diffTo f h 32768)) ∧ Kp [] w w' := by
  have HC := Lib.hid hc
  have HD := Lib.hid hd
  obtain ⟨⟨cs, hbc, hsc, hcc⟩, _⟩ := hc
  obtain ⟨⟨ds, hbd, hsd, hcd⟩, _⟩ := hd
  have HBC := Lib.hid hbc
  have HBD := Lib.hid hbd
  have HSC := Lib.hid hsc
  have HSD := Lib.hid hsd
  have HCC := Lib.hid hcc
  have HCD := Lib.hid hcd
  clear hbc hsc hcc hbd hsd hcd
  go_enter Try.func26, Try.ntmps26
  go_wp2_with fail
  refine wp_region_quiet_lit (by kernel_rfl) (by kernel_rfl) ?_
  obtain ⟨sm, hsm⟩ : ∃ sm, sameN f h (List.range 32768) = sm := ⟨_, rfl⟩
  have HSM := Lib.hid hsm
  clear hsm
  repeat (first | go_big_quiet_skip | (go_big_quiet_want; first | (refine quiet_load_row 60 (.tmp 12) rfl b rfl _ cs HBC.out _ Try.underlying60 rfl (by rw [HSC.out]; exact chunk_size) ?_; go_simp; go_big_quiet_on) | (refine quiet_load_row 60 (.tmp 15) rfl g rfl _ ds HBD.out _ Try.underlying60 rfl (by rw [HSD.out]; exact chunk_size) ?_; go_simp; go_big_quiet_on) | (refine quiet_eq_chunk (.tmp 13) (.tmp 16) _ rfl f h cs ds rfl rfl HSC.out HSD.out HCC.out HCD.out sm HSM.out ?_; go_simp; go_big_quiet_on) | (go_big_quiet_op; go_big_quiet_on)))
  refine wpQuiet_nil ?_
  intro _ hw'
  obtain ⟨nq, hw''⟩ := hw'
  subst hw''
  cases sm with
  | true =>
    go_wp2
    go_ret
    have h0 : diffTo f h 32768 = [] := diffTo_same f h 32768 ((sameN_range f h 32768).1 HSM.out)
    refine ⟨_, rfl, ?_, (Kp.refl _ _).drewN _⟩
    rw [h0]
    exact World.ownsRow_nil _ _ _ _
  | false =>
    go_wp2_with (refine wpList_load_row rfl 58 (.tmp 21) rfl b rfl 60 cs (0, 0) _ (HBC.out.drewN nq) Try.underlying58 rfl (by rw [HSC.out]; exact cells_size) ?_)
    obtain ⟨N, hN⟩ : ∃ N, N = 32768 := ⟨_, rfl⟩
    have HN := Lib.hid hN
    clear hN
    go_loopw [5, 23] (fun v i wr => ∃ n : Nat, i = .int .i64 n ∧ (n : Int) ≤ 32768 ∧ Hid (wr.ownsRow w.heap.size 3 1 v (diffTo f h n).length (ints .i64 (diffTo f h n))) ∧ Hid (Kp [] w wr)) (fun _ i _ => (32768 - intOf i).toNat)
    case atStart => exact ⟨0, rfl, by omega, World.ownsRow_nil _ _ _ _, (Kp.refl _ _).drewN _⟩
    case round =>
      obtain ⟨n, rfl, hn, HOW, HK⟩ := hrel
      by_cases hlt : (n : Int) < 32768
      · have HIX := Lib.hid (run_index_cells wr (HCC.out n (by omega)) HSC.out (by omega))
        have hcell := (HD.out.kp0 HK.out).cell (i := n) (by omega)
        by_cases heq : f n = h n
        · have HST : Hid (diffTo f h (n + 1) = diffTo f h n) := if_pos heq
          have e1 : (f n == h n) = true := by simpa using heq
          have e2 : (f n != h n) = false := by simpa using heq
          clear heq
          generalize f n = p at *
          generalize h n = q at *
          go_wp2_with ((with_reducible refine gate_op (.index 58 (.tmp 22) (.tmp 23)) rfl ?_); refine wpList_index_of rfl 58 (.tmp 22) (.tmp 23) rfl rfl rfl HIX.out ?_)
          all_goals
            go_roundw
            case rel => exact ⟨n + 1, by go_num, by omega, by rw [HST.out]; exact HOW, HK⟩
            case measure => simp [intOf] <;> omega
        · have HST : Hid (diffTo f h (n + 1) = diffTo f h n ++ [(n : Int)]) := if_neg heq
          have e1 : (f n == h n) = false := by simpa using heq
          have e2 : (f n != h n) = true := by simpa using heq
          clear heq
          have hdl := diffTo_length f h n
          generalize f n = p at *
          generalize h n = q at *
          generalize diffTo f h n = D at *
          have hkk := HK.out.size
          go_wp2_with (first | ((with_reducible refine gate_op (.index 58 (.tmp 22) (.tmp 23)) rfl ?_); refine wpList_index_of rfl 58 (.tmp 22) (.tmp 23) rfl rfl rfl HIX.out ?_) | (at_builtin; refine wpList_append_one wr rfl (.tmp 35) (.tmp 37) 31 3 rfl w.heap.size (.int .i64 0) 8 Try.underlying31 int_info rfl _ D.length (ints .i64 D) _ rfl HOW.out rfl rfl (by omega) (by omega) hkk ?_; intro v2 w2 hown2 hg2 hat2))
          all_goals
            go_roundw
            case rel =>
              refine ⟨n + 1, by go_num, by omega, ?_, HK.out.own HOW.out (Nat.le_refl _) hg2⟩
              rw [HST.out]
              show World.ownsRow _ _ _ _ _ _ _
              rw [List.length_append, ints_append]
              exact hown2
            case measure => simp [intOf] <;> omega
      · have hne : n = 32768 := by omega
        subst hne
        go_wp2
        go_ret
        exact ⟨_, rfl, HOW.out, HK.out⟩
end Go.Proofs.Ytnppdhaphnemfaa
