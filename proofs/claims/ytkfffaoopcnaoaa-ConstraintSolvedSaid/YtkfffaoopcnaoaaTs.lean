/- The law of shortest paths. Conditions: none. -/
import Derived.Test.YtkfffaoopcnaoaaTr
namespace Go.Proofs.Ytkfffaoopcnaoaa.Ab
open Go
section
variable {n : Nat} {l : List SConstraint} {a b : Int}
structure Good (l : List SConstraint) (a b : Int) (w : List Int) (k : Nat) : Prop where
  len : w.length = k + 1
  d : ∀ i (h : i < w.length), D_ l b w[i] (k - i)
  lk : ∀ i (h : i + 1 < w.length), Lk l w[i] w[i + 1]
  fst : ∃ t, w = a :: t
theorem Good.first {w : List Int} {k : Nat} (h : Good l a b w k) : ix w 0 = some a := by
  obtain ⟨t, rfl⟩ := h.fst; rfl
theorem Good.last {w : List Int} {k : Nat} (h : Good l a b w k) (hk : k ≤ 100000) : ix w (IntKind.i64.wrap ((w.length : Int) - 1)) = some b := by
  have hl := h.len
  rw [w64 (by omega) (by omega), show (w.length : Int) - 1 = (k : Int) by omega, ixL (show k < w.length by omega)]
  have := h.d k (by omega)
  rw [Nat.sub_self] at this
  rw [d_zero.1 this]
end
end Go.Proofs.Ytkfffaoopcnaoaa.Ab
