/- A region that only reads, in a ROUND of a range over a function: one walk of the text's order serves every order. -/
import Derived.Sort.QuietIn
namespace Go.Proofs.Ythjbapjmlkbeoaa
open Go.RowKit
set_option linter.unusedVariables false

theorem semAt_any (ro : Option Nat) (ρ : Operand → Value) (o : Oper) (h : ∀ c, o.op ≠ .defer c) : Oper.semAt ro ρ o = execOp ρ o := Oper.semAt_eq ro ρ o h

def noDefer (ops : Array Oper) : Bool := ops.toList.all fun o => match o.op with
  | .defer _ => false
  | _ => true

theorem noDefer_at {ops : Array Oper} (h : noDefer ops = true) {i : Nat} {o : Oper} (ho : ops[i]? = some o) : ∀ c, o.op ≠ .defer c := by
  intro c hc
  unfold noDefer at h
  rw [List.all_eq_true] at h
  have hm : o ∈ ops.toList := by
    have := Array.mem_of_getElem? ho
    exact Array.mem_toList_iff.2 this
  have := h o hm
  rw [hc] at this
  exact absurd this (by simp)

section
variable {F : Fence} {n : Nat} {P : Program} {ops : Array Oper} {md : Region.Mode} {C : World → Prop}

theorem wpIn_of_quietR {o : Oper} {a : Act} {K : Act → Prop} {K' : Act → World → Prop} {Q' : Exit → Act → World → Prop} {w : World} (hd : ∀ c, o.op ≠ .defer c) (hw : C w) (h : ∀ a w', C w' → K a → K' a w')
    (ha : o.askedIn F P a C) (hh : o.quietIn F n P a C K) : o.wpIn F n P a w K' Q' := by
  obtain ⟨v, h1, h2⟩ := hh
  have h3 := h1 w hw
  unfold Oper.quietAtIn at h3
  unfold Oper.wpIn
  refine ⟨ha w hw, ?_⟩
  rw [semAt_any _ _ _ hd]
  revert h3
  generalize (execOp a.eval o).run P w = r
  intro h3
  match r, h3 with
  | .ok (.value u) w', h3 =>
    obtain ⟨e1, e2⟩ := h3
    subst e1 e2
    exact h _ _ hw h2
  | .ok .skip w', h3 =>
    obtain ⟨e1, e2⟩ := h3
    subst e1 e2
    exact h _ _ hw h2
  | .ok (.enter f args) w', h3 =>
    obtain ⟨e1, hdp, hc⟩ := h3
    subst e1
    exact ⟨hdp, hc.mono fun e w'' ⟨he, hw''⟩ => by subst he; exact h _ _ hw'' h2⟩

theorem wpOpIn_of_quietR (hnd : noDefer ops = true) {i : Nat} {a : Act} {K : Act → Prop} {K' : Act → World → Prop} {Q' : Exit → Act → World → Prop} {w : World} (hC : C w) (h : ∀ a w', C w' → K a → K' a w')
    (hh : qOpIn F n P ops C i K a) : wpOpIn F n P ops Q' i K' a w := by
  unfold qOpIn at hh
  unfold wpOpIn
  cases ho : ops[i]? with
  | none => simp only [ho] at hh ⊢; exact h _ _ hC hh
  | some o =>
    simp only [ho] at hh ⊢
    obtain ⟨ha, hh⟩ := hh
    by_cases hw : Region.wanted o (yielded ops a.tmps) = true
    · simp only [hw, if_true] at hh ⊢; exact wpIn_of_quietR (noDefer_at hnd ho) hC h ha hh
    · simp only [hw] at hh ⊢; exact ⟨ha w hC, h _ _ hC hh⟩

theorem wpAnyIn_of_quietR (hnd : noDefer ops = true) {Q : Act → Prop} {Q' : Exit → Act → World → Prop} (hQ : ∀ a w, C w → Q a → Q' .normal a w) : ∀ (fuel : Nat) (listed : Array Bool) (a : Act) (w : World), C w →
    wpAnyQIn F n P md ops C Q fuel listed a → wpAnyIn F n P md ops Q' fuel listed a w
  | 0, _, _, _, hw, h => ⟨h.1, hQ _ _ hw h.2⟩
  | fuel + 1, _, _, _, hw, h => ⟨fun h0 => hQ _ _ hw (h.1 h0), fun i hi => wpOpIn_of_quietR hnd hw (fun a' w' hw' => wpAnyIn_of_quietR hnd hQ fuel _ a' w' hw') (h.2 i hi)⟩

theorem wpIn_region_quietR_lit {id : Nat} {Q : Exit → Act → World → Prop} {a : Act} {w : World} {l : List Oper} (hnd : noDefer l.toArray = true) (hm : P.follows .mixedOrders = true) (hB : Region.lexB .any l.toArray = true)
    (h : wpQuietIn F n P l.toArray (fun w' => ∃ n, w' = w.drewN n) (fun a' => ∀ w', (∃ n, w' = w.drewN n) → Q .normal a' w') l a) : (Code.region id l.toArray true).wpIn F n P Q a w := by
  simp only [Region.lexB, Bool.and_eq_true] at hB
  refine wpIn_region_any hm (wpAnyIn_of_quietR (C := fun w' => ∃ n, w' = w.drewN n) hnd (Q := fun a' => ∀ w', (∃ n, w' = w.drewN n) → Q .normal a' w') (fun _ w' hw' h => h w' hw') _ _ _ _ ⟨1, rfl⟩ ?_)
  have := wpAnyQIn_lex (F := F) (n := n) (C := fun w' => ∃ n, w' = w.drewN n) (md := .any) hB.1 l 0 (Array.replicate l.toArray.size false) a (by simp) (by simpa using hB.2) h
  simpa using this
end
end Go.Proofs.Ythjbapjmlkbeoaa
