/- Sorting lists of numbers or texts in place. Conditions: none. -/
import Derived.Test.YtkfffaoopcnaoaaAb32
import Derived.Test.YtkfffaoopcnaoaaAb34
namespace Go.Proofs.Ytkfffaoopcnaoaa.Ab
open Go Go.Sort

section
variable {α : Type} [Inhabited α] {f : α → D} {enc1 : α → Value}
theorem flat1 (he : ∀ x, encP f x = [enc1 x]) (l : List α) (k : Nat) (h : k < l.length) : (flatK (encP f) 1 l.toArray)[k]! = enc1 (l.toArray[k]!) := by
  rw [get_flatK _ _ _ _ (by simpa using h), Nat.div_one, Nat.mod_one, he]; rfl
theorem putRow1 (he : ∀ x, encP f x = [enc1 x]) (w : World) (b : Nat) (l : List α) : putRowK (encP f) 1 w b 0 l.toArray = putRow enc1 w b 0 l.toArray := by
  unfold putRowK putRow
  congr 1
  funext c
  unfold putCells
  apply Array.ext_getElem?
  intro k
  simp only [Array.getElem?_mapIdx, size_flatK, Nat.mul_one, Nat.zero_add, Nat.zero_le, true_and, Nat.sub_zero]
  cases c[k]? with
  | none => rfl
  | some x =>
    simp only [Option.map_some]
    by_cases hk : k < l.toArray.size
    · rw [if_pos hk, if_pos hk, flat1 he l k (by simpa using hk)]; rfl
    · rw [if_neg hk, if_neg hk]
theorem holds1 (he : ∀ x, encP f x = [enc1 x]) {w : World} {b : Nat} {l : List α} (h : HoldsK (encP f) 1 w b 0 l.toArray) : Holds enc1 w b 0 l.toArray := fun j hj => by
  have h1 := h j (by simpa using hj)
  rw [flat1 he l j (by simpa using hj)] at h1
  exact h1
/-- What the library says of its sort, at this program. -/
structure Sorts1 (P : Program) (fs : FuncId) (enc1 : α → Value) (lt : α → α → Bool) : Prop where
  nil : ∀ p cap w, Calls P fs #[.slice p 0 cap] w fun e w' => e = .returned (.tuple #[]) ∧ w' = w
  row : ∀ b cap (l : List α) w, Holds enc1 w b 0 l.toArray → b < w.heap.size → l.length < 4611686018427387904 →
    Calls P fs #[.slice (some ⟨b, 0, none⟩) l.length cap] w fun e w' => e = .returned (.tuple #[]) ∧ ∃ n os, w' = grow (putRow enc1 (Sort.ahead w n) b 0 (l.mergeSort fun x y => !lt y x).toArray) os
theorem ACall.sort1 {P : Program} {fs : FuncId} {lt : α → α → Bool} {e : TypeId} {l : List α} (hS : Sorts1 P fs enc1 lt) (hp : Pl f 1) (he : ∀ x, encP f x = [enc1 x]) (hO : SWO lt) (hT : ∀ x y, lt x y = false → lt y x = false → x = y) (hlen : l.length < 4611686018427387904) :
    ACall P fs [.hs 0 0 l.length 1] [.lst (l.map f) e 1] fun r H' => r = .tup [] ∧ H' = [.lst ((isort lt l).map f) e 1] := by
  intro g w vals hw hs ha
  obtain ⟨v0, rfl⟩ : ∃ v0, vals = #[v0] := by
    obtain ⟨vs⟩ := vals
    match vs, hs with
    | [a], _ => exact ⟨a, rfl⟩
  have h0 := ha 0 _ v0 rfl rfl
  obtain ⟨a, cap, rfl, hne⟩ := hw.lstAt hp rfl h0
  by_cases hl : l = []
  · subst hl
    refine (hS.nil a cap w).mono ?_
    rintro e' w' ⟨rfl, rfl⟩
    exact ⟨_, .tup [], g, _, rfl, hw, Evo.refl g w', .tup rfl (by simp), rfl, rfl⟩
  · obtain ⟨b, rfl, hτ, hcap, hpr, hX, hH⟩ := hne hl
    refine (hS.row b cap l w (holds1 he hH) (hw.xs b hX) hlen).mono ?_
    rintro e' w' ⟨rfl, n, os, rfl⟩
    obtain ⟨w1, w2⟩ := hw.putL (id := 0) (l' := isort lt l) hp rfl hτ hcap (isort_len _ l) n
    obtain ⟨w3, w4⟩ := w1.grown os
    rw [merge_isort hO hT, ← putRow1 he]
    exact ⟨_, .tup [], g, _, rfl, w3, w2.trans w4, .tup rfl (by simp), rfl, rfl⟩
end
def intLt (x y : Int) : Bool := decide (x < y)
theorem intLt_swo : SWO intLt where
  irrefl x := by simp [intLt]
  trans x y z h1 h2 := by simp [intLt] at *; omega
  ntrans x y z h1 h2 := by simp [intLt] at *; omega
theorem intLt_total (x y : Int) (h1 : intLt x y = false) (h2 : intLt y x = false) : x = y := by simp [intLt] at *; omega
theorem ACall.sort_int {P : Program} {fs : FuncId} {e : TypeId} {l : List Int} (hS : Sorts1 P fs (Value.int .i64) intLt) (hlen : l.length < 4611686018427387904) :
    ACall P fs [.hs 0 0 l.length 1] [.lst (l.map D.i) e 1] fun r H' => r = .tup [] ∧ H' = [.lst ((isort intLt l).map D.i) e 1] :=
  ACall.sort1 hS ⟨fun _ => rfl, fun x c hc => by simp [D.cells] at hc; subst hc; rfl⟩ (fun _ => rfl) intLt_swo intLt_total hlen
end Go.Proofs.Ytkfffaoopcnaoaa.Ab
