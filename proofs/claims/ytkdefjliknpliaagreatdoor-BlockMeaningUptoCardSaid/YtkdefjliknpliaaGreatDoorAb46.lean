/- Plain laws, joined. Conditions: none. -/
import Derived.Test.YtkdefjliknpliaaGreatDoorAb43
namespace Go.Proofs.YtkdefjliknpliaaGreatDoor.Ab
section
/- Maps of growing lists. Conditions: none. -/
open Go

/-! ### the plain language -/
section
variable {κ α : Type} [DecidableEq κ]
end

/-! ### the container -/
section
variable {κ α : Type} [DecidableEq κ] {fk : κ → D} {f : α → D} {e : TypeId}
/-- The container changes, and the rows as heads; the memory of the rows does not. -/
theorem WOK.reC {g : G} {w : World} {H : List HE} {id : Nat} {C C' : Cont} {R R' : List RowD} (hw : WOK g w H) (hH : H[id]? = some (.ob (cO C e R)))
    (h : ∀ b Vs, g.σ id = some b → CAt C e R g w id b Vs → C'.C g w id b Vs ∧ R' = R) : WOK g w (H.set id (.ob (cO C' e R'))) := by
  obtain ⟨b, k1, ⟨Vs, k2⟩, _⟩ := hw.ob id _ hH
  obtain ⟨h1, h2⟩ := h b Vs k1 k2
  exact (hw.setOb (x1 := cO C' e R') hH k1 ⟨rfl, rfl, rfl⟩ rfl (fun _ _ => rfl) (fun _ => ⟨Vs, k2.nob, h1, by rw [h2]; exact k2.len, by rw [h2]; exact k2.row, by rw [h2]; exact k2.dis⟩)).1
end

section
variable {F : FC} {E : Nat → V} {H : List HE} {κ α : Type} [DecidableEq κ] {fk : κ → D} {f : α → D} {e : TypeId} {m : List (κ × List α)} {L : List (κ × Nat × Nat)}
end
end
section
/- Maps of growing lists: operations. Conditions: none. -/
open Go

section
variable {P : Program} {H : List HE} {κ α : Type} [DecidableEq κ] {fk : κ → D} {f : α → D} {kv : κ → Value} {d : TypeDesc} {e : TypeId}
end

section
variable {P : Program} {ρ : Operand → V} {H : List HE} {ty : TypeId} {κ α : Type} [DecidableEq κ] {fk : κ → D} {f : α → D} {kv : κ → Value} {d : TypeDesc} {e : TypeId} {m : List (κ × List α)} {L : List (κ × Nat × Nat)}
end
end
section
/- Maps of growing lists: rows put in, and all given up. Conditions: none. -/
open Go

section
variable {κ α : Type} [DecidableEq κ]
end

section
variable {P : Program} {ρ : Operand → V} {H : List HE} {ty : TypeId} {κ α : Type} [DecidableEq κ] {fk : κ → D} {f : α → D} {kv : κ → Value} {d : TypeDesc} {e : TypeId} {m : List (κ × List α)} {L L' : List (κ × Nat × Nat)}
end

section
variable {F : FC} {E : Nat → V} {H : List HE} {κ α : Type} [DecidableEq κ] {fk : κ → D} {f : α → D} {e : TypeId} {m : List (κ × List α)}
end
end
end Go.Proofs.YtkdefjliknpliaaGreatDoor.Ab
