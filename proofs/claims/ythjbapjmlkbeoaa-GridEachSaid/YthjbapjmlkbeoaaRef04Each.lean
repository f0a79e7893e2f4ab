/- The walk of the reference's Each. -/
import Derived.Deep.Onto
import Derived.Deep.DeepCutAuto
import Derived.Deep.CutBlock
import Derived.Test.YthjbapjmlkbeoaaBoxOrder
import Derived.Test.YthjbapjmlkbeoaaHas
import Derived.Test.YthjbapjmlkbeoaaRef04Cnt
namespace Go.Proofs.Ythjbapjmlkbeoaa
open Go.RowKit
set_option linter.unusedVariables false
set_option linter.unusedSimpArgs false

/-- The first k places, as cells. -/
def pos3 (ax ay az bx bz : Int) (k : Nat) : List Value := (List.range k).flatMap fun j => [.int .i64 (eachX ax bx j), .int .i64 (eachY ax bx az bz ay j), .int .i64 (eachZ ax bx az bz j)]
theorem pos3_succ (ax ay az bx bz : Int) (k : Nat) : pos3 ax ay az bx bz (k + 1) = pos3 ax ay az bx bz k ++ [.int .i64 (eachX ax bx k), .int .i64 (eachY ax bx az bz ay k), .int .i64 (eachZ ax bx az bz k)] := by
  simp [pos3, List.range_succ]
theorem pos3_length (ax ay az bx bz : Int) : ∀ k, (pos3 ax ay az bx bz k).length = k * 3
  | 0 => rfl
  | k + 1 => by rw [pos3_succ, List.length_append, pos3_length ax ay az bx bz k]; show _ + 3 = _; omega
theorem pos3_get (ax ay az bx bz : Int) {j : Nat} : ∀ {k : Nat}, j < k → (pos3 ax ay az bx bz k)[j * 3]? = some (.int .i64 (eachX ax bx j)) ∧ (pos3 ax ay az bx bz k)[j * 3 + 1]? = some (.int .i64 (eachY ax bx az bz ay j)) ∧ (pos3 ax ay az bx bz k)[j * 3 + 2]? = some (.int .i64 (eachZ ax bx az bz j))
  | k + 1, h => by
    rw [pos3_succ]
    by_cases e : j = k
    · subst e
      have hl := pos3_length ax ay az bx bz j
      refine ⟨?_, ?_, ?_⟩
      · rw [List.getElem?_append_right (by omega), hl, Nat.sub_self]; rfl
      · rw [List.getElem?_append_right (by omega), hl, show j * 3 + 1 - j * 3 = 1 by omega]; rfl
      · rw [List.getElem?_append_right (by omega), hl, show j * 3 + 2 - j * 3 = 2 by omega]; rfl
    · have hl := pos3_length ax ay az bx bz k
      have h1 := pos3_get ax ay az bx bz (j := j) (k := k) (by omega)
      refine ⟨?_, ?_, ?_⟩
      · rw [List.getElem?_append_left (by omega)]; exact h1.1
      · rw [List.getElem?_append_left (by omega)]; exact h1.2.1
      · rw [List.getElem?_append_left (by omega)]; exact h1.2.2

theorem pos_info : (Try.prog.info? 23).map (fun i => (i.zero, i.size, i.bytes)) = some (some (.agg #[.int .i64 0, .int .i64 0, .int .i64 0]), 3, 24) := by kernel_rfl

/-- What comes behind a place, as the reference goes on. -/
theorem each_go {ax ay az bx by' bz : Int} (h : 0 < eachN ax ay az bx by' bz) (k : Nat) :
    (ax ≤ eachX ax bx k ∧ eachX ax bx k ≤ bx) ∧ (az ≤ eachZ ax bx az bz k ∧ eachZ ax bx az bz k ≤ bz) ∧
    ((eachX ax bx k + 1 ≤ bx ∧ eachX ax bx (k + 1) = eachX ax bx k + 1 ∧ eachZ ax bx az bz (k + 1) = eachZ ax bx az bz k ∧ eachY ax bx az bz ay (k + 1) = eachY ax bx az bz ay k) ∨
     (bx < eachX ax bx k + 1 ∧ eachX ax bx (k + 1) = ax ∧ eachZ ax bx az bz k + 1 ≤ bz ∧ eachZ ax bx az bz (k + 1) = eachZ ax bx az bz k + 1 ∧ eachY ax bx az bz ay (k + 1) = eachY ax bx az bz ay k) ∨
     (bx < eachX ax bx k + 1 ∧ eachX ax bx (k + 1) = ax ∧ bz < eachZ ax bx az bz k + 1 ∧ eachZ ax bx az bz (k + 1) = az ∧ eachY ax bx az bz ay (k + 1) = eachY ax bx az bz ay k + 1)) := by
  obtain ⟨hx, hy, hz, _⟩ := each_good h
  have h1 := next_place k (lenS ax bx) (by unfold lenS; omega)
  have h2 := next_place (k / lenS ax bx) (lenS az bz) (by unfold lenS; omega)
  have m1 : k % lenS ax bx < lenS ax bx := Nat.mod_lt _ (by unfold lenS; omega)
  have m2 : k / lenS ax bx % lenS az bz < lenS az bz := Nat.mod_lt _ (by unfold lenS; omega)
  have l1 : (lenS ax bx : Int) = bx - ax + 1 := by unfold lenS; omega
  have l2 : (lenS az bz : Int) = bz - az + 1 := by unfold lenS; omega
  unfold eachX eachY eachZ
  refine ⟨by omega, by omega, ?_⟩
  rcases h1 with ⟨g1, e1, e2⟩ | ⟨g1, e1, e2⟩
  · rw [e1, e2]
    exact .inl (by omega)
  · rw [e1, e2]
    rcases h2 with ⟨g2, e3, e4⟩ | ⟨g2, e3, e4⟩
    · rw [e3, e4]
      exact .inr (.inl (by omega))
    · rw [e3, e4]
      exact .inr (.inr (by omega))

theorem own_setFar {w : World} {base e size n : Nat} {v : Value} {xs : List Value} (h : w.ownsRow base e size v n xs) {p : Addr} (hp : p.block < base) (u : Value) : (w.setCell p u).ownsRow base e size v n xs := by
  refine h.kept (((Kp.refl [p.block] w).setCell (p := p) (.inl (by simp)) u).toGrown (row := some p.block) (fun x hx _ => by simp at hx; rw [hx])) (.inr (fun e' => ?_))
  have := (h.lt p.block e').1
  omega
def lenOf : Value → Nat
  | .slice _ n _ => n
  | _ => 0

theorem each_grown {W w5 w4 : World} {base e n m P B tP tB : Nat} {size : Nat} {v v' : Value} {xs ys : List Value} {cp cb : Array Value} (hown5 : w5.ownsRow base e size v' m ys) (hg : W.grownBy w5 v.ownBlock) (ho : W.ownsRow base e size v n xs)
    (hP : Bk W P tP cp) (hB : Bk W B tB cb) (hk : Kp [P] w4 W) (h1 : P < base) (h2 : B < base) (h3 : w4.heap.size ≤ base) :
    Hid (w5.ownsRow base e size v' m ys) ∧ Hid (Bk w5 P tP cp) ∧ Hid (Bk w5 B tB cb) ∧ Hid (Kp [P] w4 w5) := by
  have hne : ∀ q, q < base → some q ≠ v.ownBlock := fun q hq e' => by
    have := (ho.lt q e'.symm).1
    omega
  exact ⟨hown5, (hg.block P hP.lt (hne P h1)).trans hP, (hg.block B hB.lt (hne B h2)).trans hB, hk.own ho h3 hg⟩

set_option maxRecDepth 20000 in
set_option maxHeartbeats 8000000 in
theorem ref_Each (ax ay az bx by' bz most : Int) (hm1 : 1 ≤ most) (hm2 : most ≤ 5000) (w : World) :
    Calls Try.prog 20 #[boxV ax ay az bx by' bz, .int .i64 most] w fun e W' => ∃ v, e = .returned v ∧ W'.ownsRow w.heap.size 23 3 v (min (eachN ax ay az bx by' bz) most.toNat) (pos3 ax ay az bx bz (min (eachN ax ay az bx by' bz) most.toNat)) ∧ Kp [] w W' := by
  have HC := Lib.hid (ref_Count ax ay az bx by' bz)
  obtain ⟨M, hM⟩ : ∃ M, min (eachN ax ay az bx by' bz) most.toNat = M := ⟨_, rfl⟩
  have hMm : (M : Int) ≤ 5000 := by omega
  have HG := Lib.hid (fun (h : 0 < eachN ax ay az bx by' bz) k => each_go h k)
  have hc : (countS ax ay az bx by' bz ≤ most ∧ countS ax ay az bx by' bz = M) ∨ (most < countS ax ay az bx by' bz ∧ most = M) := by
    by_cases h : (eachN ax ay az bx by' bz : Int) < 2147483648
    · have := each_count (show eachN ax ay az bx by' bz < 2147483648 by omega)
      omega
    · have : countS ax ay az bx by' bz = 2147483648 := each_count_top (by omega)
      omega
  have HMN : Hid (0 < M → 0 < eachN ax ay az bx by' bz) := by
    show _ → _
    omega
  have HI := Lib.hid pos_info
  rw [hM]
  clear hM
  generalize countS ax ay az bx by' bz = cn at *
  unfold boxV at *
  have hcs : (decide (most < cn) = false ∧ cn = M) ∨ (most < cn ∧ most = M) := by
    rcases hc with ⟨a, b⟩ | h
    · exact .inl ⟨by simpa using a, b⟩
    · exact .inr h
  clear hc
  go_enter Try.func20, Try.ntmps20
  go_wp2_with fail
  refine (HC.out _).mono ?_
  rintro e w1 ⟨rfl, k1⟩
  have hh := boxed _ k1 (by simp)
  have HBx : Hid (Bk w1 w.heap.size 33 #[.int .i64 ax, .int .i64 ay, .int .i64 az, .int .i64 bx, .int .i64 by', .int .i64 bz]) := (Bk.new w _ _).kp k1 (by simp)
  obtain ⟨b0, b1, b2, b3, b4, b5⟩ := box6 k1 (by simp)
  have K1 : Hid (Kp [] w w1) := ((Kp.refl [] w).alloc _).then k1
  have hs1 := k1.size
  clear k1 hh HC
  simp at hs1
  go_upto_if 12 with (fail)
  go_cut [6] (fun s wx => s = .int .i64 (M : Int) ∧ w1 = wx)
  case first =>
    rcases hcs with ⟨h1, rfl⟩ | ⟨h1, h2⟩
    · have h3 : ¬ most < (M : Int) := by simpa using h1
      go_wp2_with fail
      all_goals
        go_meet
        first | exact ⟨rfl, rfl⟩ | exact absurd ‹most < (M : Int)› h3
    · go_wp2_with fail
      go_meet
      exact ⟨by rw [h2], rfl⟩
  case rest =>
    obtain ⟨rfl, rfl⟩ := hcut
    clear hcs
    go_wp2_with fail
    have hP := Bk.new w1 23 #[.int .i64 ax, .int .i64 ay, .int .i64 az]
    have K4 : Hid (Kp [] w (w1.alloc (.cells #[.int .i64 ax, .int .i64 ay, .int .i64 az] 23))) := K1.out.alloc _
    have hsz : (w1.alloc (.cells #[.int .i64 ax, .int .i64 ay, .int .i64 az] 23)).heap.size = w1.heap.size + 1 := by simp
    have HB4 := Lib.hid (HBx.out.alloc (.cells #[.int .i64 ax, .int .i64 ay, .int .i64 az] 23))
    generalize w1.alloc (.cells #[.int .i64 ax, .int .i64 ay, .int .i64 az] 23) = w4 at *
    have HP := Lib.hid hP
    have HSZ := Lib.hid hsz
    clear hP hsz b0 b1 b2 b3 b4 b5 HBx K1
    have f0 := each_first ax ay az bx bz
    have HF0 := Lib.hid f0
    clear f0
    go_loopw [5] (fun v wr => ∃ k : Nat, k ≤ M ∧ lenOf v = k ∧ Hid (wr.ownsRow (w1.heap.size + 1) 23 3 v k (pos3 ax ay az bx bz k)) ∧ Hid (Bk wr w1.heap.size 23 #[.int .i64 (eachX ax bx k), .int .i64 (eachY ax bx az bz ay k), .int .i64 (eachZ ax bx az bz k)]) ∧ Hid (Kp [w1.heap.size] w4 wr)) (fun v _ => M - lenOf v)
    case atStart => exact ⟨0, by omega, rfl, World.ownsRow_nil _ _ _ _, by show Bk _ _ _ _; rw [HF0.out.1, HF0.out.2.1, HF0.out.2.2]; exact HP.out, Kp.refl _ _⟩
    case round =>
      obtain ⟨k, hk, hlk, HO, HPk, HK⟩ := hrel
      by_cases hlt : k < M
      · have hpos := HMN.out (by omega)
        obtain ⟨g1, g2, g3, _⟩ := each_good hpos
        obtain ⟨x1, z1, hgo⟩ := HG.out hpos k
        have y1 : eachY ax bx az bz ay k ≤ ay + k ∧ ay ≤ eachY ax bx az bz ay k := by
          have e1 := Nat.div_le_self (k / lenS ax bx) (lenS az bz)
          have e2 := Nat.div_le_self k (lenS ax bx)
          unfold eachY
          clear hgo
          generalize k / lenS ax bx / lenS az bz = r1 at *
          generalize k / lenS ax bx = r2 at *
          omega
        have HP3 := Lib.hid (pos3_succ ax ay az bx bz k)
        have HLT := Lib.hid hlt
        have q3 := (HB4.out.kp HK.out (by simp; omega)).cell 3
        have q5 := (HB4.out.kp HK.out (by simp; omega)).cell 5
        have q0 := (HB4.out.kp HK.out (by simp; omega)).cell 0
        have q2 := (HB4.out.kp HK.out (by simp; omega)).cell 2
        have l0 := HPk.out.cell 0
        have l1 := HPk.out.cell 1
        have l2 := HPk.out.cell 2
        simp at q3 q5 q0 q2 l0 l1 l2
        have hplt := HPk.out.lt
        have hbl := (HB4.out.kp HK.out (by simp; omega)).lt
        have HBr : Hid (Bk wr w.heap.size 33 #[.int .i64 ax, .int .i64 ay, .int .i64 az, .int .i64 bx, .int .i64 by', .int .i64 bz]) := HB4.out.kp HK.out (by simp; omega)
        generalize hX : eachX ax bx k = X at *
        generalize hY : eachY ax bx az bz ay k = Y at *
        generalize hZ : eachZ ax bx az bz k = Z at *
        generalize hX1 : eachX ax bx (k + 1) = X1 at *
        generalize hY1 : eachY ax bx az bz ay (k + 1) = Y1 at *
        generalize hZ1 : eachZ ax bx az bz (k + 1) = Z1 at *
        have HX1 := Lib.hid hX1
        have HY1 := Lib.hid hY1
        have HZ1 := Lib.hid hZ1
        have hszr : w1.heap.size + 1 ≤ wr.heap.size := by have := HK.out.size; have := HSZ.out; omega
        obtain ⟨A, c, hv, _, _, _⟩ := own_read HO.out
        subst hv
        clear hX hY hZ hX1 hY1 hZ1 hk hlk hlt hpos
        obtain ⟨x1a, x1b⟩ := x1
        obtain ⟨z1a, z1b⟩ := z1
        obtain ⟨g1a, g1b, g1c⟩ := g1
        obtain ⟨g2a, g2b, g2c⟩ := g2
        obtain ⟨g3a, g3b, g3c⟩ := g3
        obtain ⟨y1a, y1b⟩ := y1
        rcases hgo with ⟨n1, q1, q7, q8⟩ | ⟨n1, q1, n2, q7, q8⟩ | ⟨n1, q1, n2, q7, q8⟩
        all_goals
          have HQ1 := Lib.hid (HX1.out.trans q1)
          have HQ7 := Lib.hid (HZ1.out.trans q7)
          have HQ8 := Lib.hid (HY1.out.trans q8)
          clear q1 q7 q8 HX1 HZ1 HY1
        · go_wp2_with (at_builtin; refine wpList_append_rd (wr.alloc (.cells #[.int .i64 X, .int .i64 Y, .int .i64 Z] 23)) rfl (.tmp 20) (.tmp 22) 34 23 rfl (w1.heap.size + 1) (.agg #[.int .i64 0, .int .i64 0, .int .i64 0]) 3 24 Try.underlying34 HI.out rfl (by omega) (.slice A k c) k (pos3 ax ay az bx bz k) rfl (HO.out.alloc _) (some ⟨wr.heap.size, 0, none⟩) 1 1 _ [.int .i64 X, .int .i64 Y, .int .i64 Z] rfl rfl (rd_mark wr #[.int .i64 X, .int .i64 Y, .int .i64 Z] 23 (0, 0)) (by simp [Value.oneCell']) (by omega) (by omega) (by simp; omega) ?_; intro v5 w5 hown5 hg5 _; obtain ⟨HO5, HP5, HB5, HK5⟩ := each_grown hown5 hg5 (HO.out.alloc _) (HPk.out.alloc _) (HBr.out.alloc _) (HK.out.alloc _) (by omega) (by omega) (by have := HSZ.out; omega); clear hown5 hg5; have p0 := HP5.out.cell 0; have p1 := HP5.out.cell 1; have p2 := HP5.out.cell 2; have r0 := HB5.out.cell 0; have r2 := HB5.out.cell 2; have r3 := HB5.out.cell 3; have r5 := HB5.out.cell 5; have fr0 := HP5.out.frozen 0; have fr1 := HP5.out.frozen 1; have fr2 := HP5.out.frozen 2; simp at p0 p1 p2 r0 r2 r3 r5)
          obtain ⟨A5, c5, hv5, _, _, _⟩ := own_read HO5.out
          subst hv5
          go_roundw
          case rel =>
            refine ⟨k + 1, HLT.out, rfl, ?_, ?_, ?_⟩
            · show World.ownsRow _ _ _ _ _ _ _
              rw [HP3.out]
              exact own_setFar (HO5.out) (p := ⟨w1.heap.size, 0, none⟩) (Nat.lt_succ_self _) _
            · show Bk _ _ _ _
              rw [HQ1.out, HQ7.out, HQ8.out]
              exact (HP5.out).put 0 _
            · exact (HK5.out).setCell (p := ⟨w1.heap.size, 0, none⟩) (.inl (by simp)) _
          case measure =>
            have := HLT.out
            show M - (k + 1) < M - k
            omega
        · go_wp2_with (at_builtin; refine wpList_append_rd (wr.alloc (.cells #[.int .i64 X, .int .i64 Y, .int .i64 Z] 23)) rfl (.tmp 20) (.tmp 22) 34 23 rfl (w1.heap.size + 1) (.agg #[.int .i64 0, .int .i64 0, .int .i64 0]) 3 24 Try.underlying34 HI.out rfl (by omega) (.slice A k c) k (pos3 ax ay az bx bz k) rfl (HO.out.alloc _) (some ⟨wr.heap.size, 0, none⟩) 1 1 _ [.int .i64 X, .int .i64 Y, .int .i64 Z] rfl rfl (rd_mark wr #[.int .i64 X, .int .i64 Y, .int .i64 Z] 23 (0, 0)) (by simp [Value.oneCell']) (by omega) (by omega) (by simp; omega) ?_; intro v5 w5 hown5 hg5 _; obtain ⟨HO5, HP5, HB5, HK5⟩ := each_grown hown5 hg5 (HO.out.alloc _) (HPk.out.alloc _) (HBr.out.alloc _) (HK.out.alloc _) (by omega) (by omega) (by have := HSZ.out; omega); clear hown5 hg5; have p0 := HP5.out.cell 0; have p1 := HP5.out.cell 1; have p2 := HP5.out.cell 2; have r0 := HB5.out.cell 0; have r2 := HB5.out.cell 2; have r3 := HB5.out.cell 3; have r5 := HB5.out.cell 5; have fr0 := HP5.out.frozen 0; have fr1 := HP5.out.frozen 1; have fr2 := HP5.out.frozen 2; simp at p0 p1 p2 r0 r2 r3 r5)
          obtain ⟨A5, c5, hv5, _, _, _⟩ := own_read HO5.out
          subst hv5
          go_roundw
          case rel =>
            refine ⟨k + 1, HLT.out, rfl, ?_, ?_, ?_⟩
            · show World.ownsRow _ _ _ _ _ _ _
              rw [HP3.out]
              exact own_setFar (own_setFar (own_setFar (HO5.out) (p := ⟨w1.heap.size, 0, none⟩) (Nat.lt_succ_self _) _) (p := ⟨w1.heap.size, 0, none⟩) (Nat.lt_succ_self _) _) (p := ⟨w1.heap.size, 2, none⟩) (Nat.lt_succ_self _) _
            · show Bk _ _ _ _
              rw [HQ1.out, HQ7.out, HQ8.out]
              exact (((HP5.out).put 0 _).put 0 _).put 2 _
            · exact (((HK5.out).setCell (p := ⟨w1.heap.size, 0, none⟩) (.inl (by simp)) _).setCell (p := ⟨w1.heap.size, 0, none⟩) (.inl (by simp)) _).setCell (p := ⟨w1.heap.size, 2, none⟩) (.inl (by simp)) _
          case measure =>
            have := HLT.out
            show M - (k + 1) < M - k
            omega
        · go_wp2_with (at_builtin; refine wpList_append_rd (wr.alloc (.cells #[.int .i64 X, .int .i64 Y, .int .i64 Z] 23)) rfl (.tmp 20) (.tmp 22) 34 23 rfl (w1.heap.size + 1) (.agg #[.int .i64 0, .int .i64 0, .int .i64 0]) 3 24 Try.underlying34 HI.out rfl (by omega) (.slice A k c) k (pos3 ax ay az bx bz k) rfl (HO.out.alloc _) (some ⟨wr.heap.size, 0, none⟩) 1 1 _ [.int .i64 X, .int .i64 Y, .int .i64 Z] rfl rfl (rd_mark wr #[.int .i64 X, .int .i64 Y, .int .i64 Z] 23 (0, 0)) (by simp [Value.oneCell']) (by omega) (by omega) (by simp; omega) ?_; intro v5 w5 hown5 hg5 _; obtain ⟨HO5, HP5, HB5, HK5⟩ := each_grown hown5 hg5 (HO.out.alloc _) (HPk.out.alloc _) (HBr.out.alloc _) (HK.out.alloc _) (by omega) (by omega) (by have := HSZ.out; omega); clear hown5 hg5; have p0 := HP5.out.cell 0; have p1 := HP5.out.cell 1; have p2 := HP5.out.cell 2; have r0 := HB5.out.cell 0; have r2 := HB5.out.cell 2; have r3 := HB5.out.cell 3; have r5 := HB5.out.cell 5; have fr0 := HP5.out.frozen 0; have fr1 := HP5.out.frozen 1; have fr2 := HP5.out.frozen 2; simp at p0 p1 p2 r0 r2 r3 r5)
          obtain ⟨A5, c5, hv5, _, _, _⟩ := own_read HO5.out
          subst hv5
          go_roundw
          case rel =>
            refine ⟨k + 1, HLT.out, rfl, ?_, ?_, ?_⟩
            · show World.ownsRow _ _ _ _ _ _ _
              rw [HP3.out]
              exact own_setFar (own_setFar (own_setFar (own_setFar (own_setFar (HO5.out) (p := ⟨w1.heap.size, 0, none⟩) (Nat.lt_succ_self _) _) (p := ⟨w1.heap.size, 0, none⟩) (Nat.lt_succ_self _) _) (p := ⟨w1.heap.size, 2, none⟩) (Nat.lt_succ_self _) _) (p := ⟨w1.heap.size, 2, none⟩) (Nat.lt_succ_self _) _) (p := ⟨w1.heap.size, 1, none⟩) (Nat.lt_succ_self _) _
            · show Bk _ _ _ _
              rw [HQ1.out, HQ7.out, HQ8.out]
              exact (((((HP5.out).put 0 _).put 0 _).put 2 _).put 2 _).put 1 _
            · exact (((((HK5.out).setCell (p := ⟨w1.heap.size, 0, none⟩) (.inl (by simp)) _).setCell (p := ⟨w1.heap.size, 0, none⟩) (.inl (by simp)) _).setCell (p := ⟨w1.heap.size, 2, none⟩) (.inl (by simp)) _).setCell (p := ⟨w1.heap.size, 2, none⟩) (.inl (by simp)) _).setCell (p := ⟨w1.heap.size, 1, none⟩) (.inl (by simp)) _
          case measure =>
            have := HLT.out
            show M - (k + 1) < M - k
            omega
      · have hkM : k = M := by omega
        subst hkM
        obtain ⟨A, c, hv, _, _, _⟩ := own_read HO.out
        subst hv
        have HKw : Hid (Kp [] w wr) := K4.out.trans HK.out (fun x hx hlt => by simp at hx; omega)
        have HO2 : Hid (wr.ownsRow w.heap.size 23 3 (.slice A k c) k (pos3 ax ay az bx bz k)) := HO.out.mono (by omega)
        clear hk hlk hlt
        go_wp2_with fail
        go_ret
        exact ⟨_, rfl, HO2.out, HKw.out⟩
end Go.Proofs.Ythjbapjmlkbeoaa
