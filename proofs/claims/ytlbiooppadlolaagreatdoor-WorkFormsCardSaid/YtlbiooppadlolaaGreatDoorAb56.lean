/- Sorting rows whose cells may be lists, told apart by the comparison. Conditions: none. -/
import Derived.Test.YtlbiooppadlolaaGreatDoorAb55
import Derived.Test.YtlbiooppadlolaaGreatDoorAb40
namespace Go.Proofs.YtlbiooppadlolaaGreatDoor.Ab
open Go Go.Sort

/-- A cell of a row: no aggregate. -/
def D.slot : D → Bool
  | .bool _ | .int _ _ | .str _ | .sl _ => true
  | _ => false
/-- What the library says of its sort with a function, at rows of any kind, told apart by the comparison. -/
structure SortsR (P : Program) (fs c : FuncId) (s : Nat) : Prop where
  nil : ∀ p cap w, Calls P fs #[.slice p 0 cap, .func (.func c) #[] #[]] w fun e w' => e = .returned (.tuple #[]) ∧ w' = w
  row : ∀ {n : Nat} [Inhabited (Fin n)] (enc : Fin n → List Value) (cf : Fin n → Fin n → Int), (∀ x, (enc x).length = s) → (∀ x, ∀ v ∈ enc x, v.oneCell' = true) → SWO (ltOf cf) → (∀ x y, ltOf cf x y = false → ltOf cf y x = false → x = y) →
    ∀ b cap (d : Array (Fin n)) w, CmpLays P c #[] enc s cf b 0 d.size w → HoldsK enc s w b 0 d → b < w.heap.size → d.size < 4611686018427387904 →
    Calls P fs #[.slice (some ⟨b, 0, none⟩) d.size cap, .func (.func c) #[] #[]] w fun e w' => e = .returned (.tuple #[]) ∧ ∃ n os, w' = sortWorldK enc s w b 0 n (d.toList.mergeSort fun x y => !(ltOf cf) y x).toArray os

section
variable {α : Type} {f : α → D} {s : Nat}
end
end Go.Proofs.YtlbiooppadlolaaGreatDoor.Ab
