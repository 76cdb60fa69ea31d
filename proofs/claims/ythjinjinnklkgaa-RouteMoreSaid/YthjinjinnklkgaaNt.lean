/- Natural numbers as lists of digits to the base 65536: plain laws. Conditions: none. -/
import Derived.Test.YthjinjinnklkgaaPl
namespace Go.Proofs.Ythjinjinnklkgaa.Ab
open Go

/-- A loop whose states keep a law and become fewer. -/
theorem iter_inv {σ τ : Type} {f : σ → Option (σ ⊕ τ)} (I : Nat → σ → Prop) (Q : τ → Prop) (h : ∀ k s, I k s → (∃ s' k', f s = some (.inl s') ∧ k' < k ∧ I k' s') ∨ (∃ t, f s = some (.inr t) ∧ Q t)) :
    ∀ (k n : Nat) (s : σ), I k s → k < n → ∃ t, iter n f s = some t ∧ Q t := by
  intro k
  induction k using Nat.strongRecOn with
  | _ k ih =>
    intro n s hI hn
    cases n with
    | zero => omega
    | succ n =>
      rcases h k s hI with ⟨s', k', h1, h2, h3⟩ | ⟨t, h1, h2⟩
      · obtain ⟨t, e, q⟩ := ih k' h2 n s' h3 (by omega)
        exact ⟨t, by rw [iter, h1]; exact e, q⟩
      · exact ⟨t, by rw [iter, h1]; rfl, h2⟩
theorem setI_some {α : Type} {l : List α} {i : Int} {x : α} (h0 : 0 ≤ i) (h : i < l.length) : setI l i x = some (l.set i.toNat x) := by
  rw [setI, if_pos ⟨h0, by omega⟩]
theorem app_some {α : Type} {b : Nat} {l m : List α} (hb : b ≤ 1000) (h : l.length + m.length ≤ 100000000000) : app b l m = some (l ++ m) := by
  rw [app, if_pos]
  refine ⟨?_, by omega⟩
  have := Nat.mul_le_mul h hb
  omega
theorem mkL_some {α : Type} {b : Nat} {i : Int} {x : α} (hb : b ≤ 1000) (h0 : 0 ≤ i) (h : i ≤ 100000000000) : mkL b i x = some (List.replicate i.toNat x) := by
  rw [mkL, if_pos]
  refine ⟨h0, ?_, by omega⟩
  have := Nat.mul_le_mul (show i.toNat ≤ 100000000000 by omega) hb
  omega
end Go.Proofs.Ythjinjinnklkgaa.Ab
