/- Plain laws, joined. Conditions: none. -/
import Derived.Test.YtkdefjliknpliaaGreatDoorAb43
namespace Go.Proofs.YtkdefjliknpliaaGreatDoor.Ab
section
/- Maps of growing lists. Conditions: none. -/
open Go

/-! ### the plain language -/
section
variable {κ α : Type} [DecidableEq κ]
end

/-! ### the container -/
section
variable {κ α : Type} [DecidableEq κ] {fk : κ → D} {f : α → D} {e : TypeId}
end

section
variable {F : FC} {E : Nat → V} {H : List HE} {κ α : Type} [DecidableEq κ] {fk : κ → D} {f : α → D} {e : TypeId} {m : List (κ × List α)} {L : List (κ × Nat × Nat)}
end
end
section
/- Maps of growing lists: operations. Conditions: none. -/
open Go

section
variable {P : Program} {H : List HE} {κ α : Type} [DecidableEq κ] {fk : κ → D} {f : α → D} {kv : κ → Value} {d : TypeDesc} {e : TypeId}
end

section
variable {P : Program} {ρ : Operand → V} {H : List HE} {ty : TypeId} {κ α : Type} [DecidableEq κ] {fk : κ → D} {f : α → D} {kv : κ → Value} {d : TypeDesc} {e : TypeId} {m : List (κ × List α)} {L : List (κ × Nat × Nat)}
end
end
section
/- Maps of growing lists: rows put in, and all given up. Conditions: none. -/
open Go

section
variable {κ α : Type} [DecidableEq κ]
end

section
variable {P : Program} {ρ : Operand → V} {H : List HE} {ty : TypeId} {κ α : Type} [DecidableEq κ] {fk : κ → D} {f : α → D} {kv : κ → Value} {d : TypeDesc} {e : TypeId} {m : List (κ × List α)} {L L' : List (κ × Nat × Nat)}
end

section
variable {F : FC} {E : Nat → V} {H : List HE} {κ α : Type} [DecidableEq κ] {fk : κ → D} {f : α → D} {e : TypeId} {m : List (κ × List α)}
end
end
end Go.Proofs.YtkdefjliknpliaaGreatDoor.Ab
