/- What a valid request is, and what a step that is done comes to. Conditions: none. -/
import Derived.Test.YtciojlggdnmncaaSu
import Derived.Test.YtciojlggdnmncaaSr
set_option maxRecDepth 100000
namespace Go.Proofs.Ytciojlggdnmncaa.Ab
open Go 


theorem triedAt_app {l : List (List UInt8)} {x lib : List UInt8} {k : Nat} (hk : k < l.length) : triedAt (l ++ [x]) lib k = triedAt l lib k := by
  unfold triedAt
  have e : (l ++ [x]).getD k [] = l.getD k [] := by rw [List.getD_eq_getElem?_getD, List.getElem?_append_left hk, ← List.getD_eq_getElem?_getD]
  rw [e, List.take_append_of_le_length (by omega)]
theorem tried_snoc {l : List (List UInt8)} {x lib : List UInt8} (h : triedB l lib = true) (hx : nameB x = true) (hl : x ≠ lib) (hn : hasS l x = false) (hs : l.length < 20) : triedB (l ++ [x]) lib = true := by
  rw [tryB_eq] at h ⊢
  simp only [Bool.and_eq_true, Bool.not_eq_true', decide_eq_true_eq] at h ⊢
  refine ⟨tryB_no fun j hj => ?_, by simp; omega⟩
  rw [List.length_append] at hj
  by_cases hj' : j < l.length
  · rw [triedAt_app hj']
    have := h.1
    rw [tryB, List.any_eq_false] at this
    simpa using this j (List.mem_range.2 hj')
  · have : j = l.length := by simp at hj; omega
    subst this
    unfold triedAt
    have e : (l ++ [x]).getD l.length [] = x := by simp [List.getD]
    rw [e]
    simp [hx, hl, hn]
/-- What a valid request is. -/
structure Req.Val (r : Req) : Prop where
  id : inI r.id 1 1000000000 = true
  work : inI r.work 1 1000000000 = true
  lib : nameB r.lib = true
  st : inI r.st 1 9 = true
  tm : inI r.tm 0 1000000 = true
  tried : triedB r.tried r.lib = true
  lender : if inI r.st 2 7 = true then nameB r.lender = true ∧ r.lender ≠ r.lib ∧ hasS r.tried r.lender = false else r.lender = []
  due : if inI r.st 4 7 = true then ((r.st = 4 ∨ r.st = 5) → r.tm ≤ r.due) ∧ inI r.due 1 1000000 = true ∧ inI r.ren 0 2 = true else r.due = 0 ∧ r.ren = 0
theorem iteN (a b : Bool) : (if a = true then false else b) = (!a && b) := by cases a <;> rfl
theorem val_iff (r : Req) : validB r = true ↔ r.Val := by
  constructor
  · intro h
    unfold validB at h
    rw [iteN, iteN, iteN] at h
    simp only [Bool.and_eq_true] at h
    obtain ⟨h1, h2, h3⟩ := h
    simp only [Bool.or_eq_true, Bool.not_eq_true', Bool.or_eq_false_iff, Bool.not_eq_false'] at h1
    obtain ⟨⟨⟨⟨⟨a1, a2⟩, a3⟩, a4⟩, a5⟩, a6⟩ := h1
    refine ⟨a1, a2, a3, a4, a5, a6, ?_, ?_⟩
    · cases hb : inI r.st 2 7 <;> simp only [hb, Bool.false_eq_true, ↓reduceIte] at h2 ⊢
      · simpa using h2
      · simp at h2; exact ⟨h2.1.1, h2.1.2, h2.2⟩
    · cases hb : inI r.st 4 7 <;> simp only [hb, Bool.not_true, Bool.not_false, Bool.false_eq_true, ↓reduceIte] at h3 ⊢
      · simpa using h3
      · simp only [Bool.and_eq_true] at h3
        refine ⟨fun hs => ?_, h3.2⟩
        have h4 := h3.1
        simp at h4
        omega
  · rintro ⟨a1, a2, a3, a4, a5, a6, a7, a8⟩
    unfold validB
    rw [if_neg (by simp [a1, a2, a3, a4, a5, a6])]
    rw [if_neg (by
      cases hb : inI r.st 2 7 <;> simp only [hb, if_true, if_false, Bool.false_eq_true, ↓reduceIte] at a7 ⊢
      · simp [a7]
      · simp [a7.1, a7.2.1, a7.2.2])]
    cases hb : inI r.st 4 7 <;> simp only [hb, Bool.not_true, Bool.not_false, if_true, if_false, Bool.false_eq_true, ↓reduceIte] at a8 ⊢
    · simpa using a8
    · rw [if_neg (by
        simp only [Bool.and_eq_true, Bool.or_eq_true, decide_eq_true_eq, not_and]
        intro hs; have := a8.1 hs; omega)]
      simp [a8.2.1, a8.2.2]
/-- What a step that is done comes to. -/
structure Done (r : Req) (s : Stp) : Prop where
  val : r.Val
  kind : 1 ≤ s.kind ∧ s.kind ≤ 10
  has : hasI (kindsL r.st) s.kind = true
  tm : r.tm ≤ s.tm ∧ s.tm ≤ 1000000
  ref : refusedI r s = 0
  lend : s.kind = 1 ∨ s.lender = []
  due : s.kind = 4 ∨ s.kind = 5 ∨ s.due = 0
  eq : (doI r s).1 = stepR r s
theorem done_of {r : Req} {s : Stp} (h : (doI r s).2 = 0) : Done r s := by
  have e := do_step h
  have t := do_tm h
  have v := (val_iff r).1 (do_valid h)
  unfold doI at h
  split at h; · simp at h
  rename_i h1
  split at h; · simp at h
  rename_i h2
  split at h; · simp at h
  split at h
  · rename_i h4; simp at h4; exact absurd h h4
  rename_i h4
  simp only [Bool.or_eq_true, Bool.and_eq_true, Bool.not_eq_true', not_or, not_and, Bool.not_eq_false, decide_eq_true_eq, decide_eq_false_iff_not, inI_iff, Bool.or_eq_false_iff] at h1
  refine ⟨v, h1.1.1.2, by simpa using h2, t, by simpa using h4, ?_, ?_, e⟩
  · by_cases k : s.kind = 1
    · exact .inl k
    · exact .inr (Classical.not_not.1 (h1.1.2 k))
  · by_cases k4 : s.kind = 4
    · exact .inl k4
    by_cases k5 : s.kind = 5
    · exact .inr (.inl k5)
    exact .inr (.inr (Classical.not_not.1 (h1.2 ⟨k4, k5⟩)))
/-- The pairs of a state and a kind that it permits. -/
theorem pairs_of {n k : Int} (h : hasI (kindsL n) k = true) : (n = 1 ∧ (k = 1 ∨ k = 9 ∨ k = 10)) ∨ (n = 2 ∧ (k = 2 ∨ k = 3 ∨ k = 9)) ∨ (n = 3 ∧ k = 4) ∨ (n = 4 ∧ (k = 5 ∨ k = 6 ∨ k = 7)) ∨ (n = 5 ∧ k = 7) ∨ (n = 6 ∧ k = 8) := by
  unfold kindsL at h
  repeat' split at h
  all_goals (simp [hasI] at h; try omega)


end Go.Proofs.Ytciojlggdnmncaa.Ab
