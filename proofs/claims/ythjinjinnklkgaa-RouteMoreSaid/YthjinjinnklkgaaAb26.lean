/- Comparing rows of plain cells. Conditions: none. -/
import Derived.Test.YthjinjinnklkgaaAb25
import Derived.Laws.StructEq
import Derived.KernelRfl
namespace Go.Proofs.Ythjinjinnklkgaa.Ab
open Go

section
variable {P : Program} {ρ : Operand → V} {H : List HE} {ty : TypeId}
end
section
variable {P : Program} {ρ : Operand → V} {H : List HE} {ty : TypeId} {x y : Operand} {t u : TypeId} {k : IntKind} {a b c : Int}
end
theorem w1 {m : Nat} (h : m + 1 ≤ 4611686018427387904) : IntKind.i64.wrap ((m : Int) + ((1 : Nat) : Int)) = ((m + 1 : Nat) : Int) := by
  rw [w64 (by omega) (by omega)]; omega
theorem ws {m i : Nat} (h : m + 1 ≤ 4611686018427387904) (hi : i ≤ m) : IntKind.i64.wrap (((m + 1 : Nat) : Int) - (i : Int)) = ((m + 1 - i : Nat) : Int) := by
  rw [w64 (by omega) (by omega)]; omega
/-- Two values of a type are compared as what they mean. -/
def EqS {α : Type} [DecidableEq α] (P : Program) (t : TypeId) (f : α → D) : Prop :=
  P.eqGuardType P.depth t = false ∧ ∀ Pr w x y a b, RepD Pr w (f x) a → RepD Pr w (f y) b → ∃ xs ys, a = .agg xs ∧ b = .agg ys ∧ ∀ w', (Op.equalIn 10000 t (.agg xs) (.agg ys)).run P w' = .ok (decide (x = y)) w'

inductive RepLL (Pr : Nat → Nat → Prop) (w : World) : List D → List Value → Prop
  | nil : RepLL Pr w [] []
  | cons {x : D} {v : Value} {l : List D} {vs : List Value} : RepD Pr w x v → RepLL Pr w l vs → RepLL Pr w (x :: l) (v :: vs)
theorem RepLL.of {Pr : Nat → Nat → Prop} {w : World} : ∀ {l : List D} {vs : List Value}, vs.length = l.length → (∀ (i : Nat) x v, l[i]? = some x → vs[i]? = some v → RepD Pr w x v) → RepLL Pr w l vs
  | [], [], _, _ => .nil
  | x :: l, v :: vs, h, hh => .cons (hh 0 x v rfl rfl) (RepLL.of (by simpa using h) (fun i y u h1 h2 => hh (i + 1) y u h1 h2))
  | [], _ :: _, h, _ => by simp at h
  | _ :: _, [], h, _ => by simp at h
section
variable {P : Program} {ρ : Operand → V} {H : List HE} {ty : TypeId}
end
theorem OpRuns.mono {P : Program} {o : Oper} {r : Operand → Value} {w : World} {K K' : Value → World → Prop} (h : OpRuns P o r w K) (hk : ∀ v w', K v w' → K' v w') : OpRuns P o r w K' := by
  unfold OpRuns at *
  generalize (execOp r o).run P w = q at *
  cases q with
  | ok n w' =>
    cases n with
    | value v => exact hk _ _ h
    | skip => exact hk _ _ h
    | enter f args => exact Calls.mono h (fun e w'' ⟨v, h1, h2⟩ => ⟨v, h1, hk _ _ h2⟩)
    | _ => exact h
  | halt _ _ => exact h
section
variable {P : Program} {ρ : Operand → V} {H : List HE} {ty : TypeId}
theorem ix_inv {α : Type} {l : List α} {k : Int} {v : α} (h : ix l k = some v) : 0 ≤ k ∧ l[k.toNat]? = some v ∧ k.toNat < l.length := by
  unfold ix at h
  split at h
  · rename_i h0
    exact ⟨h0, h, (List.getElem?_eq_some_iff.1 h).1⟩
  · cases h
theorem OpV.asD {o : Op} {y : V} {x : D} {H' : List HE} (h : OpV P o ty ρ H y H') (hx : y.asD = some x) : OpV P o ty ρ H (.d x) H' := fun g w r pos after guard dst hw hr =>
  OpRuns.mono (h g w r pos after guard dst hw hr) (fun _ _ ⟨g', h1, h2, h3⟩ => ⟨g', h1, h2, .d (h3.asD hx)⟩)
end
end Go.Proofs.Ythjinjinnklkgaa.Ab
