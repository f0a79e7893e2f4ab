/- The row of a law that lists package-level variables, out of its walk. -/
import Derived.Test.YtmliknefakoplaaDoorBase
import Derived.LaidLaws
import Derived.LaidMore
import Derived.MakeChecks
import Derived.FnData
import Derived.Stop.Joined
import Derived.ChangeArms
namespace Go.Proofs.YtmliknefakoplaaDoor
open Go.RowKit Go.ChangeShapes Go.WideShapes Go.ChangeAt
set_option linter.unusedVariables false
set_option linter.unusedSimpArgs false

/-- A law's row under a condition on the world: whatever the arguments read as, the call returns true and leaves what was there as it was. -/
theorem lifted_of_walk_laid {H : Type} {enc : TypeId × Value → H} {C : Checked} {os : Os} {f : FuncId} {fn : Func} {s : ChangeSpec} {tb : TypeId} {X : World → Array Value → Prop}
    (hX : ∀ (w w' : World) (args : Array Value), w.heap = w'.heap → X w args → X w' args)
    (own : ownKnob C.prog.godebug = none) (started : os.Started) (noInit : C.prog.inits.idxOf? f = none) (hfn : C.prog.funcs[f]? = some fn)
    (witness : ∃ (w : World) (tape : Tape) (i : Input), w.os = os ∧ (w.forCall tape i).Shaped C.prog ∧ i.vars = [] ∧ Input.okWide C.prog (w.forCall tape i) .any w.heap.size f i ∧
      ((s.pre enc C.prog fn [] false (w.forCall tape i).memory i.args ∧ X (w.forCall tape i).memory i.args) ∧ sizedMet enc C.prog fn (OpenSpec.ofChange s) false (w.forCall tape i).memory i.args) ∧ ({} : Assume).holds C.prog (lone (Frame.enter C.prog f i.args .normal) [] (w.forCall tape i)))
    (hl : laidOutB C.prog = true) (hr : (fn.params.toList.all fun t => C.prog.readableRec t && decide (t < C.prog.types.size)) = true) (hrt : fn.resultTypes = #[tb]) (hb : C.prog.underlying tb = some .bool)
    (hsv : s.vars = []) (hsp : ∀ ds : List (DataW H), ds.length = fn.params.size → s.fn H ds = { results := [.lit (.bool true)], args := ds })
    (walk : ∀ (W : World) (args : Array Value) (ds : List (DataW H)) (ps : List MemPlace) (base : Nat), X W args → DataW.TrodAll enc C.prog W 0 (fun _ => true) true fn.params.toList args.toList ds ps →
      (∀ (j : Nat) t v, fn.params[j]? = some t → args[j]? = some v → Value.okWide C.prog W .any base t v) →
      (DataW.weightsEach C.prog fn.params.toList ds).all (· ≤ reachBytes) = true →
      Calls C.prog f args W fun e W' => e = .returned (.bool true) ∧ Kp [] W W') :
    ReturnsInHanded {} C os f .any (fun w args => (s.pre enc C.prog fn [] false w args ∧ X w args) ∧ sizedMet enc C.prog fn (OpenSpec.ofChange s) false w args) (s.post enc C.prog fn false true false false) := by
  refine returnsInHanded_of_change_and hX own started noInit hfn witness ?_
  intro W base args ds gs before hval hW _ hsz hx _
  have hW' := hW
  obtain ⟨p, q, hA, hV, rfl, hfz, hnd⟩ := hW
  rw [hsv] at hV
  obtain ⟨rfl, rfl⟩ := trodVars_none hV
  have hvt : s.plain.varTypes C.prog = [] := by simp [ChangeSpec.plain, DataSpec.varTypes, hsv]
  rw [hvt] at hsz
  simp only [List.append_nil] at hsz hW'
  refine (walk W args ds p base hx hA hval hsz).mono fun e W' ⟨he, hk⟩ => ?_
  subst he
  have hlen : ds.length = fn.params.size := by rw [trodAll_length hA, Array.length_toList]
  have hlt : ∀ x ∈ p, x.block < W.heap.size := fun x hx => hW'.lt x hx
  have hrr : ∀ t ∈ fn.params.toList, C.prog.readableRec t = true ∧ t < C.prog.types.size := fun t ht => by
    have h0 := List.all_eq_true.1 hr t ht
    simpa using h0
  have hs := hsp ds hlen
  have hvars : (s.fn H ds).vars = [] := by rw [hs]
  refine ⟨_, rfl, ds, [], p, [], p, [], hW', ?_, ?_, ?_, hk.below.frame _, fun h => by cases h⟩
  · rw [List.append_nil, hs, hrt]
    exact trodAll_mk1 (shut_bool hb _)
  · rw [List.append_nil, hs]
    exact below_trodAll hl hk.below hrr hA hlt
  · rw [List.append_nil, hvars, hsv]
    exact rfl

/-- An array of structs of four numbers of int: its cells, off its datum. -/
theorem trod_rows4 {P : Program} {w : World} {base : Nat} {spare : Nat → Bool} {held : Bool} {H : Type} {enc : TypeId × Value → H} {fuel n : Nat} {t e i : TypeId} {f0 f1 f2 f3 : Field} {cs : List Value} {rows : List (Int × Int × Int × Int)} {p : List MemPlace}
    (ht : P.underlying t = some (.array n e)) (he : P.underlying e = some (.struct #[f0, f1, f2, f3])) (hc : P.cellsOf e = 4) (hct : P.cellsOf t = n * 4) (hi : P.underlying i = some (.int .i64)) (hci : P.cellsOf i = 1)
    (h0 : f0.offset = 0 ∧ f0.type = i) (h1 : f1.offset = 1 ∧ f1.type = i) (h2 : f2.offset = 2 ∧ f2.type = i) (h3 : f3.offset = 3 ∧ f3.type = i)
    (h : DataW.trod enc P w base spare held fuel t cs = some (.agg (rows.map fun r => .agg [.lit (.int .i64 r.1), .lit (.int .i64 r.2.1), .lit (.int .i64 r.2.2.1), .lit (.int .i64 r.2.2.2)]), p)) :
    rows.length = n ∧ ∀ (j : Nat) (r : Int × Int × Int × Int), rows[j]? = some r → cs[j * 4]? = some (.int .i64 r.1) ∧ cs[j * 4 + 1]? = some (.int .i64 r.2.1) ∧ cs[j * 4 + 2]? = some (.int .i64 r.2.2.1) ∧ cs[j * 4 + 3]? = some (.int .i64 r.2.2.2) := by
  obtain ⟨xs, m, rfl, hx, hlen, hn, hel⟩ := DataW.trod_array ht h
  have hx1 : (rows.map fun r => DataW.agg (H := H) [.lit (.int .i64 r.1), .lit (.int .i64 r.2.1), .lit (.int .i64 r.2.2.1), .lit (.int .i64 r.2.2.2)]) = xs.map (·.1) := by
    have := congrArg Prod.fst hx
    simpa using this
  have hrl : rows.length = n := by
    have := congrArg List.length hx1
    simp at this
    omega
  refine ⟨hrl, fun j r hj => ?_⟩
  have hjl : j < n := by
    rw [← hrl]
    exact (List.getElem?_eq_some_iff.1 hj).1
  have hxj : xs[j]? = some (xs[j]'(by omega)) := List.getElem?_eq_getElem (by omega)
  have hrow : (xs[j]'(by omega)).1 = DataW.agg (H := H) [.lit (.int .i64 r.1), .lit (.int .i64 r.2.1), .lit (.int .i64 r.2.2.1), .lit (.int .i64 r.2.2.2)] := by
    have h5 := congrArg (fun l => l[j]?) hx1
    simp only [List.getElem?_map, hj, hxj, Option.map_some] at h5
    exact (Option.some.inj h5).symm
  have h6 := hel j hjl
  rw [hxj] at h6
  obtain ⟨ys, m2, rfl, hy, hyl, hyn, hg⟩ := DataW.trod_struct he h6
  have hy1 : ys.map (·.1) = [.lit (.int .i64 r.1), .lit (.int .i64 r.2.1), .lit (.int .i64 r.2.2.1), .lit (.int .i64 r.2.2.2)] := by
    have h7 := congrArg Prod.fst hy
    rw [hrow] at h7
    simpa using h7.symm
  match ys, hyn, hy1, hg with
  | [y0, y1, y2, y3], _, hy1, hg =>
    simp only [List.map_cons, List.map_nil, List.cons.injEq, and_true] at hy1
    obtain ⟨e0, e1, e2, e3⟩ := hy1
    have cell : ∀ (k : Nat) (f : Field) (y : DataW H × List MemPlace) (v : Int), #[f0, f1, f2, f3][k]? = some f → f.offset = k → f.type = i → k < 4 → [y0, y1, y2, y3][k]? = some y → y.1 = .lit (.int .i64 v) → cs[j * 4 + k]? = some (.int .i64 v) := by
      intro k f y v hf ho hty hk hy hv
      have h8 := hg k f hf
      rw [ho, hty, hci] at h8
      rw [show ([y0, y1, y2, y3][k]? : Option (DataW H × List MemPlace)) = some y from hy] at h8
      obtain ⟨u, hu, hyu, _⟩ := DataW.trod_int hi h8
      rw [hyu] at hv
      have huv : u = v := by simpa using hv
      subst huv
      have h9 := congrArg (fun l => l[0]?) hu
      rw [hc] at h9
      simp [List.getElem?_take, List.getElem?_drop, show k < 4 from hk] at h9
      exact h9
    exact ⟨by simpa using cell 0 f0 y0 r.1 rfl h0.1 h0.2 (by omega) rfl e0, cell 1 f1 y1 r.2.1 rfl h1.1 h1.2 (by omega) rfl e1, cell 2 f2 y2 r.2.2.1 rfl h2.1 h2.2 (by omega) rfl e2, cell 3 f3 y3 r.2.2.2 rfl h3.1 h3.2 (by omega) rfl e3⟩
end Go.Proofs.YtmliknefakoplaaDoor
