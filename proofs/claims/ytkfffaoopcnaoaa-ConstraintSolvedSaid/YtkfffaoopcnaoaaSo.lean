/- What the library says of its sorts, at this program. Conditions: none. -/
import Derived.Test.YtkfffaoopcnaoaaSh
import Derived.Test.YtkfffaoopcnaoaaSc
import Derived.Test.YtkfffaoopcnaoaaTy
namespace Go.Proofs.Ytkfffaoopcnaoaa.Ab
open Go Go.Sort Go.Shelf

theorem sortsI : Sorts1 Try.prog 59 (Value.int .i64) intLt where
  nil p cap w := Any.slices_Sort_int_none Try.sortInt p cap w
  row b cap l w hH hb hl := (Any.slices_Sort_int Try.sortInt b 0 cap l w hH hb hl).mono fun e w' ⟨h1, n, os, h2⟩ => ⟨h1, n, os, by
    rw [h2]
    have : (fun x y : Int => decide (x ≤ y)) = fun x y => !intLt y x := by
      funext x y; rw [Bool.eq_iff_iff]; simp [intLt]
    rw [this]⟩
theorem sortsC : SortsF Try.prog 54 55 (encP SConstraint.e) 3 cfC where
  nil p cap w := AnyF.slices_SortFunc_none Try.sortItem p cap _ w
  row b cap d w hc hH hb hd := AnyQ.slices_SortFunc_total Try.sortItem 3 (fun w => Try.isAgg50 w) (fun w => Try.sizeOf50 w) (encP SConstraint.e) (fun x => rfl) (fun x v hv => by
    simp [encP, SConstraint.e, D.cells, plainV] at hv
    rcases hv with rfl | rfl | rfl <;> rfl) cfC cfC_swo 55 #[] b 0 cap d w (by intros; rfl) hc hH hb hd cfC_total
end Go.Proofs.Ytkfffaoopcnaoaa.Ab
