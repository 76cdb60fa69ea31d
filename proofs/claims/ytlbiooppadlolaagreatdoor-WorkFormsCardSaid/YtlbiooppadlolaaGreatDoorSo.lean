/- What the library says of its sort, at this program. Conditions: none. -/
import Derived.Test.YtlbiooppadlolaaGreatDoorSh
import Derived.Test.YtlbiooppadlolaaGreatDoorOk
import Derived.Test.YtlbiooppadlolaaGreatDoorAb56
namespace Go.Proofs.YtlbiooppadlolaaGreatDoor.Ab
open Go Go.Sort Go.Shelf
set_option maxRecDepth 100000

theorem sortsI : Sorts1 Tryz.prog 29 (Value.int .i64) intLt where
  nil p cap w := Tryz.slices_Sort_int_none p cap w
  row b cap l w hH hb hl := (Tryz.slices_Sort_int b 0 cap l w hH hb hl).mono fun e w' ⟨h1, n, os, h2⟩ => ⟨h1, n, os, by
    rw [h2]
    have : (fun x y : Int => decide (x ≤ y)) = fun x y => !intLt y x := by
      funext x y; rw [Bool.eq_iff_iff]; simp [intLt]
    rw [this]⟩
end Go.Proofs.YtlbiooppadlolaaGreatDoor.Ab
