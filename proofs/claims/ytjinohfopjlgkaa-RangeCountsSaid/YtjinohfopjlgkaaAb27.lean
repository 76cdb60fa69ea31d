/- Maps that are made and written here, and texts that are gone through: what operations on them come to. Conditions: none. -/
import Derived.Test.YtjinohfopjlgkaaAb26
import Derived.Maps.RangeRun
import Derived.Maps.Keyed
namespace Go.Proofs.Ytjinohfopjlgkaa.Ab
open Go

section
variable {H : List HE}
end

/-! ### maps -/
/-- Keys of a map as data. -/
structure KeyF (P : Program) (kt : TypeId) {κ : Type} [DecidableEq κ] (fk : κ → D) (kv : κ → Value) (d : TypeDesc) : Prop where
  ty : P.underlying kt = some d
  isk : ∀ x, MapKept.IsKey d (kv x)
  rep : ∀ {Pr : Nat → Nat → Prop} {w : World} {x : κ} {v : Value}, RepD Pr w (fk x) v → v = kv x
  mkr : ∀ {Pr : Nat → Nat → Prop} {w : World} {x : κ}, RepD Pr w (fk x) (kv x)
  same : ∀ x y, Instr.sameNow d (kv x) (kv y) = some (decide (x = y))
section
variable {P : Program} {ρ : Operand → V} {H : List HE} {ty : TypeId} {κ ν : Type} [DecidableEq κ] {fk : κ → D} {fv : ν → D} {kv : κ → Value} {d : TypeDesc}
theorem Is.mp {x : Operand} {id : Nat} {g : G} {w : World} {r : Operand → Value} (hx : Is (ρ x) (.mp id)) (h : Rep g w (ρ x) (r x)) : ∃ b, g.σ id = some b ∧ r x = .map (some b) := by
  have := hx.rep h
  generalize hr : r x = v at this
  cases this with
  | mp hb => exact ⟨_, hb, rfl⟩
end
end Go.Proofs.Ytjinohfopjlgkaa.Ab
