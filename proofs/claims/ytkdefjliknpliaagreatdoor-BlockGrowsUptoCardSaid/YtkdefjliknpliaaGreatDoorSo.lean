/- What the library says of its sorts, at this program. Conditions: none. -/
import Derived.Test.YtkdefjliknpliaaGreatDoorSh
import Derived.Test.YtkdefjliknpliaaGreatDoorCp
import Derived.Test.YtkdefjliknpliaaGreatDoorTy
namespace Go.Proofs.YtkdefjliknpliaaGreatDoor.Ab
open Go Go.Sort Go.Shelf
set_option maxRecDepth 100000
theorem sortsI : Sorts1 Tryz.prog 66 (Value.int .i64) intLt where
  nil p cap w := Tryz.slices_Sort_int_none p cap w
  row b cap l w hH hb hl := (Tryz.slices_Sort_int b 0 cap l w hH hb hl).mono fun e w' ⟨h1, n, os, h2⟩ => ⟨h1, n, os, by
    rw [h2]
    have : (fun x y : Int => decide (x ≤ y)) = fun x y => !intLt y x := by
      funext x y; rw [Bool.eq_iff_iff]; simp [intLt]
    rw [this]⟩
theorem sortsS : Sorts1 Tryz.prog 49 (fun s : List UInt8 => Value.string ⟨s.toArray⟩) strLt where
  nil p cap w := Tryz.slices_Sort_string_none p cap w
  row b cap l w hH hb hl := (Tryz.slices_Sort_string b 0 cap l w hH hb hl).mono fun e w' ⟨h1, n, os, h2⟩ => ⟨h1, n, os, by
    rw [h2]
    have : (fun x y : List UInt8 => decide (x ≤ y)) = fun x y => !strLt y x := by
      funext x y; rw [Bool.eq_iff_iff]; simp [strLt]
    rw [this]⟩
theorem sortsP : SortsF Tryz.prog 59 60 (encP SPair.e) 2 cfP where
  nil p cap w := AnyF.slices_SortFunc_none Tryz.sortItem p cap _ w
  row b cap d w hc hH hb hd := AnyQ.slices_SortFunc_total Tryz.sortItem 2 (fun w => Tryz.isAgg64 w) (fun w => Tryz.sizeOf64 w) (encP SPair.e) (fun x => rfl) (fun x v hv => by
    simp [encP, SPair.e, D.cells, plainV] at hv
    rcases hv with rfl | rfl <;> rfl) cfP cfP_swo 60 #[] b 0 cap d w (by intros; rfl) hc hH hb hd cfP_total
end Go.Proofs.YtkdefjliknpliaaGreatDoor.Ab
