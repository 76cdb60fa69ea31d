/- Going through maps in whatever order, and through texts: what it comes to. Conditions: none. -/
import Derived.Test.YtjinohfopjlgkaaAb27
namespace Go.Proofs.Ytjinohfopjlgkaa.Ab
open Go

/-! ### the plain language -/
/-! ### iterators over maps -/
theorem WOK.drew {g : G} {w : World} {H : List HE} (h3 : WOK g w H) : WOK g w.drew H ∧ Evo g w g w.drew := by
  have hev : Evo g w g w.drew := ⟨⟨rfl, rfl, rfl⟩, Nat.le_refl _, fun _ _ h => ⟨h, rfl⟩, fun _ _ h => .inl h, fun _ h => .inl h, fun _ _ _ => rfl, fun _ _ h => h, fun _ m a cap h => ⟨m, a, cap, h, .inr ⟨rfl, rfl, rfl⟩⟩⟩
  refine ⟨⟨h3.pr, h3.xs, h3.blk, h3.sep, fun id c hc => ?_, h3.tok, fun id l e s hc => ?_, fun id x hc => ?_, h3.free, h3.kcE hev⟩, hev⟩
  · obtain ⟨b, arr, et, e1, e2, e3, e4, e5⟩ := h3.row id c hc
    exact ⟨b, arr, et, e1, e2, e3, fun k x v hx hv => (e4 k x v hx hv).mono hev, e5⟩
  · obtain ⟨a, cap, k1, k2, k3, k4⟩ := h3.lst id l e s hc
    refine ⟨a, cap, k1, k2, k3, fun hlt => ?_⟩
    obtain ⟨b, arr, q1, q0, q2, q3, q4, q5⟩ := k4 hlt
    exact ⟨b, arr, q1, q0, q2, q3, q4, fun k x v hx hv => (q5 k x v hx hv).mono hev.pr⟩
  · obtain ⟨b, q1, q2, q3, q4⟩ := h3.ob id x hc
    exact ⟨b, q1, x.st hev rfl rfl rfl (fun _ _ => rfl) q2, q3, q4⟩

section
variable {P : Program} {ρ : Operand → V} {H : List HE} {ty : TypeId}
end

/-- What is left of a list, by places. -/
def left {α : Type} (l : List α) (S : List Nat) : List Nat → List α := fun I => I.filterMap fun i => if i ∈ S then none else l[i]?
/-! ### texts -/
section
variable {P : Program} {ρ : Operand → V} {H : List HE} {ty : TypeId}
end
end Go.Proofs.Ytjinohfopjlgkaa.Ab
