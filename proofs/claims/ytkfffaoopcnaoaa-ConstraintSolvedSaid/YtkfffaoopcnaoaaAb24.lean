/- States told anew, slot by slot. Conditions: none. -/
import Derived.Test.YtkfffaoopcnaoaaAb23
namespace Go.Proofs.Ytkfffaoopcnaoaa.Ab
open Go

def slots (m : List (Nat × V)) : Nat → V := fun i => lookV m i .any
theorem AW.cutS {F : FC} {Q : Exit → St → Prop} {α : Type} {x y : Code} {E : Nat → V} {H : List HE} (n0 : Nat) (I : α → Prop) (m : α → List (Nat × V)) (K : α → List HE)
    (hg : ∀ id, n0 ≤ id → F.g0.σ id = none ∧ F.g0.τ id = none)
    (h1 : AW F x (thenQ (fun s => ∃ z, I z ∧ Meets n0 E [] (m z) (K z) s) Q) ⟨E, H⟩) (h2 : ∀ z, I z → AW F y Q ⟨slots (m z), K z⟩) : AW F (.seq x y) Q ⟨E, H⟩ :=
  AW.cutM n0 I [] m K hg h1 h2
theorem AW.loopS {F : FC} {Q : Exit → St → Prop} {σ τ : Type} {c : Code} {E : Nat → V} {H : List HE} (n0 : Nat) (m : σ → List (Nat × V)) (K : σ → List HE) {f : σ → Option (σ ⊕ τ)} {n : Nat} {s0 : σ} {t : τ}
    (hit : iter n f s0 = some t) (hg : ∀ id, n0 ≤ id → F.g0.σ id = none ∧ F.g0.τ id = none) (h0 : Meets n0 E [] (m s0) (K s0) ⟨E, H⟩)
    (round : ∀ n' s, iter (n' + 1) f s = some t → AW F c (thenQ (fun st => ∃ s', iter n' f s' = some t ∧ Meets n0 (slots (m s)) [] (m s') (K s') st) Q) ⟨slots (m s), K s⟩) : AW F (.loop c) Q ⟨E, H⟩ :=
  AW.loopM n0 [] m K hit hg h0 (fun n' s h => (round n' s h).mono fun e st hq => by
    cases e with
    | normal =>
      obtain ⟨s', h1, S, k1, k2, k3, k4, k5, k6⟩ := hq
      exact ⟨s', h1, S, k1, k2, rfl, k4, trivial, k6⟩
    | _ => exact hq)
theorem AW.reset {F : FC} {Q : Exit → St → Prop} {c : Code} {E : Nat → V} {H : List HE} (n0 : Nat) (m : List (Nat × V)) (K : List HE) (hg : ∀ id, n0 ≤ id → F.g0.σ id = none ∧ F.g0.τ id = none) (h0 : Meets n0 E [] m K ⟨E, H⟩) (k : AW F c Q ⟨slots m, K⟩) : AW F c Q ⟨E, H⟩ :=
  fun a w hs => k a w (meets_sim hg hs h0)
end Go.Proofs.Ytkfffaoopcnaoaa.Ab
