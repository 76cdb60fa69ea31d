/- The order of rules. Conditions: none. -/
import Derived.Test.YtkfffaoopcnaoaaMi
namespace Go.Proofs.Ytkfffaoopcnaoaa.Ab
open Go Go.Sort Go.Shelf
theorem cmpI_neg {a b : Int} : cmpI a b < 0 ↔ a < b := by unfold cmpI; split <;> (try split) <;> omega
theorem cmpI_zero {a b : Int} : cmpI a b = 0 ↔ a = b := by unfold cmpI; split <;> (try split) <;> omega
theorem cfC_lt {x y : SConstraint} : ltOf cfC x y = decide (x.fKind < y.fKind ∨ (x.fKind = y.fKind ∧ (x.fA < y.fA ∨ (x.fA = y.fA ∧ x.fB < y.fB)))) := by
  unfold ltOf cfC orI
  rw [Bool.eq_iff_iff, decide_eq_true_iff, decide_eq_true_iff]
  by_cases h : x.fKind = y.fKind
  · rw [if_pos (cmpI_zero.2 h)]
    by_cases h2 : x.fA = y.fA
    · rw [if_pos (cmpI_zero.2 h2), cmpI_neg]; omega
    · rw [if_neg (fun hc => h2 (cmpI_zero.1 hc)), cmpI_neg]; omega
  · rw [if_neg (fun hc => h (cmpI_zero.1 hc)), cmpI_neg]; omega
theorem cfC_swo : SWO (ltOf cfC) where
  irrefl x := by rw [cfC_lt]; simp
  trans x y z h1 h2 := by
    simp only [cfC_lt, decide_eq_true_eq] at *; omega
  ntrans x y z h1 h2 := by
    simp only [cfC_lt, decide_eq_false_iff_not] at *; omega
theorem cfC_total (x y : SConstraint) (h1 : ltOf cfC x y = false) (h2 : ltOf cfC y x = false) : x = y := by
  simp only [cfC_lt, decide_eq_false_iff_not] at h1 h2
  obtain ⟨a, b, c⟩ := x
  obtain ⟨a', b', c'⟩ := y
  have e1 : a = a' := by dsimp only at *; omega
  have e2 : b = b' := by dsimp only at *; omega
  have e3 : c = c' := by dsimp only at *; omega
  rw [e1, e2, e3]
theorem cmp_i {n : Nat} {a b : Int} : m_cmp_Compare_int n a b = some (cmpI a b) := by
  simp only [m_cmp_Compare_int, m_cmp_isNaN_int, cmpI, Option.bind_some]
  simp
  split
  · rfl
  · split <;> rfl
theorem or_i {n : Nat} (h : 64 ≤ n) {a b c : Int} : m_cmp_Or_int n [a, b, c] = some (orI a (orI b c)) := by
  obtain ⟨k, rfl⟩ : ∃ k, n = k + 4 := ⟨n - 4, by omega⟩
  have w1 : IntKind.i64.wrap 1 = 1 := by decide
  have w2 : IntKind.i64.wrap 2 = 2 := by decide
  have w3 : IntKind.i64.wrap 3 = 3 := by decide
  unfold orI
  by_cases ha : a = 0
  · subst ha
    by_cases hb : b = 0
    · subst hb
      by_cases hc : c = 0
      · subst hc
        simp [m_cmp_Or_int, iter, m_cmp_Or_int_L1, ix, w1, w2, w3]
      · simp [m_cmp_Or_int, iter, m_cmp_Or_int_L1, ix, hc, w1, w2, w3]
    · simp [m_cmp_Or_int, iter, m_cmp_Or_int_L1, ix, hb, w1, w2]
  · simp [m_cmp_Or_int, iter, m_cmp_Or_int_L1, ix, ha]
theorem cfC_ok {n : Nat} (h : 64 ≤ n) (x y : SConstraint) : m_constraint_normal_1 n x y = some (cfC x y) := by
  rw [m_constraint_normal_1, cmp_i, Option.bind_some, cmp_i, Option.bind_some, cmp_i, Option.bind_some, or_i h]; rfl
end Go.Proofs.Ytkfffaoopcnaoaa.Ab
