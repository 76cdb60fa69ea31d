/- What the library says of its sorts and of Grow, at this program. Conditions: none. -/
import Derived.Test.YtjinohfopjlgkaaSh
import Derived.Test.YtjinohfopjlgkaaSc
import Derived.Test.YtjinohfopjlgkaaTy
namespace Go.Proofs.Ytjinohfopjlgkaa.Ab
open Go Go.Sort Go.Shelf

theorem sortsI : Sorts1 Try.prog 55 (Value.int .i64) intLt where
  nil p cap w := Any.slices_Sort_int_none Try.sortInt p cap w
  row b cap l w hH hb hl := (Any.slices_Sort_int Try.sortInt b 0 cap l w hH hb hl).mono fun e w' ⟨h1, n, os, h2⟩ => ⟨h1, n, os, by
    rw [h2]
    have : (fun x y : Int => decide (x ≤ y)) = fun x y => !intLt y x := by
      funext x y; rw [Bool.eq_iff_iff]; simp [intLt]
    rw [this]⟩
theorem sortsC : SortsF Try.prog 44 39 (encP SItem.e) 2 cfC where
  nil p cap w := AnyF.slices_SortFunc_none Try.sortItem p cap _ w
  row b cap d w hc hH hb hd := AnyQ.slices_SortFunc_total Try.sortItem 2 (fun w => Try.isAgg56 w) (fun w => Try.sizeOf56 w) (encP SItem.e) (fun x => rfl) (fun x v hv => by
    simp [encP, SItem.e, D.cells, plainV] at hv
    rcases hv with rfl | rfl <;> rfl) cfC cfC_swo 39 #[] b 0 cap d w (by intros; rfl) hc hH hb hd cfC_total
theorem grow_of {P : Program} {ρ : Go.Shelf.Ren} (L : Lays8.n4 P ρ) {f : FuncId} {t e : TypeId} {s bytes : Nat} (hf : ρ.f 4 = f) (ht : ρ.t 25 = e) (h0 : 0 < s) (hs : SlT P t e s bytes) : Grows P f e s bytes where
  zero w := by
    subst hf
    exact (Any8.slices_Grow_room L none 0 0 0 w (by omega) (by omega) (by omega) (by omega)).mono fun e w' h => h
  more n w h1 h2 h3 := by
    obtain ⟨i, z, k1, k2, k3, k4, k5⟩ := hs.i
    subst hf
    subst ht
    refine (Any8.slices_Grow_grow L i z k1 k4 (by omega) none 0 0 n [] w (by omega) (by omega) (by rw [k3]; simpa using h2) (by omega) (by simp) (fun _ => rfl) (fun a h => by cases h)).mono fun e' w' ⟨h4, h5⟩ => ?_
    have hz : ∀ m, (Builtin.zeroCells z.cells m).size = m * s := fun m => by simp [Builtin.zeroCells, k5]
    have hc1 := grownCap_ge w (0 + n) 0 (ρ.t 25)
    have hc2 := grownCap_le_maxLen w (0 + n) 0 (ρ.t 25) (by simp only [maxLen]; omega)
    refine ⟨_, _, h4, h5, ?_, by simpa [maxLen] using hc2⟩
    simp only [Array.size_append, List.size_toArray, List.length_nil, hz, Nat.zero_add, Nat.sub_zero] at hc1 ⊢
    rw [← Nat.add_mul]
    congr 1
    omega
theorem growI : Grows Try.prog 57 56 2 16 := grow_of Try.growI rfl rfl (by decide) sl34
theorem growB : Grows Try.prog 83 34 1 24 := grow_of Try.growB rfl rfl (by decide) sl26
end Go.Proofs.Ytjinohfopjlgkaa.Ab
