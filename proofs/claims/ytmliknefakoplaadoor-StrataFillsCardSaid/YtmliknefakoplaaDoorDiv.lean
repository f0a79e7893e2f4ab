/- Division and its rest, rounded down: what num.Div, num.Mod tell. -/
import Derived.Test.YtmliknefakoplaaDoorBase
namespace Go.Proofs.YtmliknefakoplaaDoor
open Go.RowKit
set_option linter.unusedVariables false
set_option linter.unusedSimpArgs false

/-- A number of int. -/
def I64 (a : Int) : Prop := -9223372036854775808 ≤ a ∧ a ≤ 9223372036854775807
theorem I64.of_wf {a : Int} (h : (Lit.int .i64 a).wf = true) : I64 a := by
  simp only [Lit.wf, Bool.and_eq_true, decide_eq_true_eq] at h
  exact h
/-- A byte; a number of uint64. -/
def U8 (a : Int) : Prop := 0 ≤ a ∧ a < 256
theorem U8.of_wf {a : Int} (h : (Lit.int .u8 a).wf = true) : U8 a := by
  simp only [Lit.wf, Bool.and_eq_true, decide_eq_true_eq] at h
  have h2 : 0 ≤ a ∧ a ≤ 255 := h
  unfold U8
  omega
def U64 (a : Int) : Prop := 0 ≤ a ∧ a ≤ 18446744073709551615
theorem U64.of_wf {a : Int} (h : (Lit.int .u64 a).wf = true) : U64 a := by
  simp only [Lit.wf, Bool.and_eq_true, decide_eq_true_eq] at h
  exact h
theorem I64.wrap {a : Int} (h : I64 a) : wrap64 a = a := by
  unfold I64 at h
  unfold wrap64
  omega
theorem I64.mk {a : Int} (h0 : -9223372036854775808 ≤ a) (h1 : a ≤ 9223372036854775807) : I64 a := ⟨h0, h1⟩
theorem ret_int {k : IntKind} {a b : Int} (h : a = b) : Ending.returned (.int k a) = .returned (.int k b) := by rw [h]
theorem ret_bool {a b : Bool} (h : a = b) : Ending.returned (.bool a) = .returned (.bool b) := by rw [h]

def fdiv (a b : Int) : Int := if b < 1 then 0 else a / b
def fmod (a b : Int) : Int := if b < 1 then 0 else a % b

theorem ediv_range {a b : Int} (ha : I64 a) (hb : 1 ≤ b) : I64 (a / b) := by
  unfold I64 at ha ⊢
  have h1 : a / b ≤ max a 0 := by
    rcases Int.le_total 0 a with h | h
    · have := Int.ediv_le_self b h; omega
    · have := Int.ediv_le_ediv (c := b) (by omega) h; rw [Int.zero_ediv] at this; omega
  have h2 : min a 0 ≤ a / b := by
    rcases Int.le_total 0 a with h | h
    · have := Int.ediv_nonneg h (show 0 ≤ b by omega); omega
    · have h3 := Int.le_ediv_of_mul_le (a := a) (b := a) (c := b) (by omega) (by
        have : a * b ≤ a * 1 := Int.mul_le_mul_of_nonpos_left h hb
        omega)
      omega
  omega
theorem emod_range {a b : Int} (hb : 1 ≤ b) : 0 ≤ a % b ∧ a % b < b := ⟨Int.emod_nonneg a (by omega), Int.emod_lt_of_pos a (by omega)⟩
theorem tdiv_cases {a b : Int} (hb : 1 ≤ b) : (a.tmod b < 0 ∧ a.tdiv b = a / b + 1 ∧ a.tmod b = a % b - b) ∨ (0 ≤ a.tmod b ∧ a.tdiv b = a / b ∧ a.tmod b = a % b) := by
  have h1 := Int.tdiv_eq_ediv (a := a) (b := b)
  have h2 := Int.tmod_eq_emod (a := a) (b := b)
  have h3 := emod_range (a := a) hb
  by_cases hc : 0 ≤ a ∨ b ∣ a
  · rw [if_pos hc] at h1 h2
    right
    omega
  · rw [if_neg hc] at h1 h2
    rw [Int.sign_eq_one_of_pos (by omega)] at h1
    left
    refine ⟨?_, by omega, ?_⟩ <;> omega
theorem fdiv_I64 {a b : Int} (ha : I64 a) : I64 (fdiv a b) := by
  unfold fdiv
  split
  · exact ⟨by omega, by omega⟩
  · exact ediv_range ha (by omega)
end Go.Proofs.YtmliknefakoplaaDoor
