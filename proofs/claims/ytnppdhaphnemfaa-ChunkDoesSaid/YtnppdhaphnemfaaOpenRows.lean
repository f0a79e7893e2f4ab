/- A slice of structs of whole numbers that came in, as one row of numbers. -/
import Derived.Deep.Slices
import Derived.Deep.Fields
import Derived.Test.YtnppdhaphnemfaaDiv
namespace Go.Proofs.Ytnppdhaphnemfaa
open Go.RowKit Go.ChangeShapes Go.WideShapes Go.Deep
set_option linter.unusedVariables false
set_option linter.unusedSimpArgs false

/-- A slice of n structs of k whole numbers each: its numbers in a row. -/
structure RowsSl (w : World) (k : Nat) (A : Option Addr) (n c : Nat) (xs : List Int) : Prop where
  nil : A = none → c = 0
  le : n ≤ c
  len : xs.length = n * k
  rd : Rd w w.heap.size A (ints .i64 xs)
  small : n * (k * 8) ≤ 140737488351232
  i64 : ∀ x ∈ xs, I64 x

/-- The number in a cell. -/
def numAt (w : World) (p : Addr) : Int := match w.cell? p with | some (.int _ x) => x | _ => 0

theorem open_slice_rows {H : Type} {enc : TypeId × Value → H} {P : Program} {W : World} {base : Nat} {t e tI : TypeId} {fs : Array Field} {k : Nat} {v : Value} {d : DataW H} {p : List MemPlace}
    {ts : List TypeId} {ds : List (DataW H)} {j : Nat} (hu : P.underlying t = some (.slice e)) (he : P.underlying e = some (.struct fs)) (hone : oneCellFields P fs = true) (hk : fs.size = k) (hC : P.cellsOf e = k) (hb : P.bytesOf e = k * 8)
    (hI : P.underlying tI = some (.int .i64)) (hall : fs.toList.all (fun f => f.type == tI) = true)
    (hsz : (DataW.weightsEach P ts ds).all (· ≤ reachBytes) = true) (ht : ts[j]? = some t) (hd : ds[j]? = some d)
    (hv : Value.okWide P W .any base t v) (h : DataW.Trod enc P W 0 (fun _ => true) true t v d p) : ∃ A n c xs, v = .slice A n c ∧ RowsSl W k A n c xs := by
  obtain ⟨A, n, c, rfl⟩ := okWide_slice hu hv
  obtain ⟨fuel, hf⟩ := h
  rcases open_slice hu hf with ⟨hcs, _⟩ | ⟨a, len, cap, m, q, D, Pl, hcs, _, hl, hm, hmm, hx, hi⟩
  · simp [Value.cells] at hcs
    obtain ⟨rfl, rfl, rfl⟩ := hcs
    exact ⟨none, 0, 0, [], rfl, ⟨fun _ => rfl, Nat.le_refl _, by simp, Rd.nil _ _ _, by omega, by simp⟩⟩
  · simp [Value.cells] at hcs
    obtain ⟨rfl, rfl, rfl⟩ := hcs
    simp only [if_true] at hmm
    subst hmm
    obtain ⟨hx1, _⟩ := Prod.mk.inj hx
    subst hx1
    have z := sized_slice hsz ht hd hu
    rw [hb, List.length_map, List.length_map, List.length_range, List.length_range] at z
    have z2 : m * (k * 8) ≤ 140737488351232 := by rwa [show n + (m - n) = m from by omega] at z
    -- every cell holds a number
    have hcell : ∀ r, r < n * k → W.cell? (a.add r) = some (.int .i64 (numAt W (a.add r))) ∧ I64 (numAt W (a.add r)) := fun r hr => by
      have hk0 : 0 < k := by
        rcases Nat.eq_zero_or_pos k with h0 | h0
        · rw [h0, Nat.mul_zero] at hr
          omega
        · exact h0
      have hin : r / k < n := (Nat.div_lt_iff_lt_mul hk0).2 hr
      have hjn : r % k < k := Nat.mod_lt _ hk0
      obtain ⟨cs', hc, ht'⟩ := hi (r / k) (by omega)
      rw [hC] at hc
      obtain ⟨ys, q', _, _, hlen, hyl, hfl⟩ := DataW.trod_struct he ht'
      obtain ⟨_, hcl, hat⟩ := World.cells?_some hc
      have hfj : fs[r % k]? = some (fs[r % k]'(by omega)) := Array.getElem?_eq_getElem (by omega)
      obtain ⟨ho, hk1⟩ := hone_of hone _ _ hfj
      have h1 := hfl _ _ hfj
      have hty : (fs[r % k]'(by omega)).type = tI := by
        have := List.all_eq_true.1 hall (fs[r % k]'(by omega)) (by simp)
        simpa using this
      have hdrop : (cs'.drop (r % k)).take 1 = [cs'[r % k]'(by omega)] := by
        rw [List.drop_eq_getElem_cons (by omega)]
        rfl
      rw [ho, hk1, hdrop, hty] at h1
      have hys : ys[r % k]? = some (ys[r % k]'(by omega)) := List.getElem?_eq_getElem (by omega)
      obtain ⟨x, hx, _, hwf⟩ := DataW.trod_int hI (h1.trans hys)
      have h2 := hat (r % k) hjn
      rw [Go.Deep.add_add, show r / k * k + r % k = r from Nat.div_add_mod' r k, List.getElem?_eq_getElem (by omega)] at h2
      have hx' : cs'[r % k]'(by omega) = .int .i64 x := by simpa using hx
      rw [hx'] at h2
      have h3 : numAt W (a.add r) = x := by
        unfold numAt
        rw [h2]
      rw [h3]
      exact ⟨h2, I64.of_wf hwf⟩
    refine ⟨_, n, m, (List.range (n * k)).map (fun r => numAt W (a.add r)), rfl, ⟨(fun h => by cases h), hl, by simp, fun r u hu => ?_, Nat.le_trans (Nat.mul_le_mul_right _ hl) z2, fun x hx => ?_⟩⟩
    · have hr : r < n * k := by
        rcases Nat.lt_or_ge r (n * k) with h | h
        · exact h
        · rw [List.getElem?_eq_none (by rw [ints_length]; simpa using h)] at hu
          cases hu
      obtain ⟨hc1, _⟩ := hcell r hr
      refine ⟨a, rfl, ?_, ?_⟩
      · have := World.block_lt_of_cell? W _ hc1
        rwa [add_block] at this
      · unfold ints at hu
        rw [List.getElem?_map, List.getElem?_map, List.getElem?_range hr] at hu
        injection hu with hu
        rw [hc1, ← hu]
    · obtain ⟨r, hr, rfl⟩ := List.mem_map.1 hx
      exact (hcell r (List.mem_range.1 hr)).2
end Go.Proofs.Ytnppdhaphnemfaa
