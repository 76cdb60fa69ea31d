/- What the library says of its sorts and of Grow, at this program. Conditions: none. -/
import Derived.Test.YtjinohfopjlgkaaSh
import Derived.Test.YtjinohfopjlgkaaMi
import Derived.Test.YtjinohfopjlgkaaTy
namespace Go.Proofs.Ytjinohfopjlgkaa.Ab
open Go Go.Sort Go.Shelf

theorem sortsI : Sorts1 Try.prog 55 (Value.int .i64) intLt where
  nil p cap w := Any.slices_Sort_int_none Try.sortInt p cap w
  row b cap l w hH hb hl := (Any.slices_Sort_int Try.sortInt b 0 cap l w hH hb hl).mono fun e w' ⟨h1, n, os, h2⟩ => ⟨h1, n, os, by
    rw [h2]
    have : (fun x y : Int => decide (x ≤ y)) = fun x y => !intLt y x := by
      funext x y; rw [Bool.eq_iff_iff]; simp [intLt]
    rw [this]⟩
theorem cmpI_neg {a b : Int} : cmpI a b < 0 ↔ a < b := by unfold cmpI; split <;> (try split) <;> omega
theorem cmpI_zero {a b : Int} : cmpI a b = 0 ↔ a = b := by unfold cmpI; split <;> (try split) <;> omega
theorem cfC_lt {x y : SItem} : ltOf cfC x y = decide (x.fN < y.fN ∨ (x.fN = y.fN ∧ x.fDoc < y.fDoc)) := by
  unfold ltOf cfC
  rw [Bool.eq_iff_iff, decide_eq_true_iff, decide_eq_true_iff]
  by_cases h : x.fN = y.fN
  · rw [if_pos (cmpI_zero.2 h), cmpI_neg]; omega
  · rw [if_neg (fun hc => h (cmpI_zero.1 hc)), cmpI_neg]; omega
theorem cfC_swo : SWO (ltOf cfC) where
  irrefl x := by rw [cfC_lt]; simp
  trans x y z h1 h2 := by
    simp only [cfC_lt, decide_eq_true_eq] at *; omega
  ntrans x y z h1 h2 := by
    simp only [cfC_lt, decide_eq_false_iff_not] at *; omega
theorem cfC_total (x y : SItem) (h1 : ltOf cfC x y = false) (h2 : ltOf cfC y x = false) : x = y := by
  simp only [cfC_lt, decide_eq_false_iff_not] at h1 h2
  obtain ⟨a, b⟩ := x
  obtain ⟨c, d⟩ := y
  have e1 : a = c := by dsimp only at *; omega
  have e2 : b = d := by dsimp only at *; omega
  rw [e1, e2]
theorem cmp_i {n : Nat} {a b : Int} : m_cmp_Compare_int n a b = some (cmpI a b) := by
  simp only [m_cmp_Compare_int, m_cmp_isNaN_int, cmpI, Option.bind_some]
  simp
  split
  · rfl
  · split <;> rfl
theorem or_i {n : Nat} (h : 64 ≤ n) {a b : Int} : m_cmp_Or_int n [a, b] = some (if a = 0 then b else a) := by
  obtain ⟨k, rfl⟩ : ∃ k, n = k + 3 := ⟨n - 3, by omega⟩
  have w1 : IntKind.i64.wrap 1 = 1 := by decide
  have w2 : IntKind.i64.wrap 2 = 2 := by decide
  by_cases ha : a = 0
  · subst ha
    by_cases hb : b = 0
    · subst hb
      simp [m_cmp_Or_int, iter, m_cmp_Or_int_L1, ix, w1, w2]
    · simp [m_cmp_Or_int, iter, m_cmp_Or_int_L1, ix, hb, w1, w2]
  · simp [m_cmp_Or_int, iter, m_cmp_Or_int_L1, ix, ha]
theorem cfC_ok {n : Nat} (h : 64 ≤ n) (x y : SItem) : m_rangeindex_order n x y = some (cfC x y) := by
  rw [m_rangeindex_order, cmp_i, Option.bind_some, cmp_i, Option.bind_some, or_i h]; rfl
theorem sortsC : SortsF Try.prog 44 39 (encP SItem.e) 2 cfC where
  nil p cap w := AnyF.slices_SortFunc_none Try.sortItem p cap _ w
  row b cap d w hc hH hb hd := AnyQ.slices_SortFunc_total Try.sortItem 2 (fun w => Try.isAgg56 w) (fun w => Try.sizeOf56 w) (encP SItem.e) (fun x => rfl) (fun x v hv => by
    simp [encP, SItem.e, D.cells, plainV] at hv
    rcases hv with rfl | rfl <;> rfl) cfC cfC_swo 39 #[] b 0 cap d w (by intros; rfl) hc hH hb hd cfC_total
theorem grow_of {P : Program} {ρ : Go.Shelf.Ren} (L : Lays8.n4 P ρ) {f : FuncId} {t e : TypeId} {s bytes : Nat} (hf : ρ.f 4 = f) (ht : ρ.t 25 = e) (h0 : 0 < s) (hs : SlT P t e s bytes) : Grows P f e s bytes where
  zero w := by
    subst hf
    exact (Any8.slices_Grow_room L none 0 0 0 w (by omega) (by omega) (by omega) (by omega)).mono fun e w' h => h
  more n w h1 h2 h3 := by
    obtain ⟨i, z, k1, k2, k3, k4, k5⟩ := hs.i
    subst hf
    subst ht
    refine (Any8.slices_Grow_grow L i z k1 k4 (by omega) none 0 0 n [] w (by omega) (by omega) (by rw [k3]; simpa using h2) (by omega) (by simp) (fun _ => rfl) (fun a h => by cases h)).mono fun e' w' ⟨h4, h5⟩ => ?_
    have hz : ∀ m, (Builtin.zeroCells z.cells m).size = m * s := fun m => by simp [Builtin.zeroCells, k5]
    have hc1 := grownCap_ge w (0 + n) 0 (ρ.t 25)
    have hc2 := grownCap_le_maxLen w (0 + n) 0 (ρ.t 25) (by simp only [maxLen]; omega)
    refine ⟨_, _, h4, h5, ?_, by simpa [maxLen] using hc2⟩
    simp only [Array.size_append, List.size_toArray, List.length_nil, hz, Nat.zero_add, Nat.sub_zero] at hc1 ⊢
    rw [← Nat.add_mul]
    congr 1
    omega
theorem growI : Grows Try.prog 57 56 2 16 := grow_of Try.growI rfl rfl (by decide) sl34
theorem growB : Grows Try.prog 83 34 1 24 := grow_of Try.growB rfl rfl (by decide) sl26
end Go.Proofs.Ytjinohfopjlgkaa.Ab
