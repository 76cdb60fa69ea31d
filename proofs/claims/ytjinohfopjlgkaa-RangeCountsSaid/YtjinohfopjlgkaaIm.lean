/- Pieces of a list in plain Lean. Conditions: none. -/
import Derived.RowKit
namespace Go.Proofs.Ytjinohfopjlgkaa.Ab
open Go
def chunksN {α : Type} (k : Nat) : Nat → List α → List (List α)
  | 0, _ => []
  | _ + 1, [] => []
  | n + 1, x :: l => (x :: l).take k :: chunksN k n ((x :: l).drop k)
def chunksM {α : Type} (l : List α) (k : Int) : Option (List (List α)) := if 1 ≤ k ∧ k ≤ 1000000 ∧ l.length ≤ 100000000000 then some (chunksN k.toNat l.length l) else none
def delL {α : Type} (l : List α) (i j : Int) : Option (List α) := if 0 ≤ i ∧ i ≤ j ∧ j ≤ l.length then some (l.take i.toNat ++ l.drop j.toNat) else none
end Go.Proofs.Ytjinohfopjlgkaa.Ab
