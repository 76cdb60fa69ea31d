/- strconv.Itoa in the plain language. Conditions: none. -/
import Derived.Lib.ItoaNum
import Derived.RowKit
namespace Go.Proofs.YtagdgndoabomiaaDoor.Ab
open Go Go.RowKit
def itoaM (n : Int) : Option (List UInt8) := if -9223372036854775808 ≤ n ∧ n ≤ 9223372036854775807 then some (Lib.itoa n) else none
/-- nat.Int, given what the functions that it calls yield. -/
def natInt (v : Option Bool) (s : Option (List Int)) (c : List Int → Option Int) (a : List Int) : Option (Int × Int) :=
  v.bind fun v => if v = false then some (0, 1) else s.bind fun s => (c s).bind fun c => if 0 < c then some (0, 2)
    else if a.length * 8 ≤ 140737488351232 then some (a.reverse.foldl (fun s d => wrap64 (wrap64 (65536 * s) + d)) 0, 0) else none
end Go.Proofs.YtagdgndoabomiaaDoor.Ab
