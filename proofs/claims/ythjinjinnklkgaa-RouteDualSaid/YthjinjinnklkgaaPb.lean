/- Chapter 56: Valid of the reference. Conditions: none. -/
import Derived.Test.YthjinjinnklkgaaPa
set_option maxRecDepth 100000
namespace Go.Proofs.Ythjinjinnklkgaa.Ab
open Go

theorem all_anyN {α : Type} (l : List α) (d : α) (p : α → Bool) : l.all p = !anyN l.length (fun i => !p (l.getD i d)) := by
  rw [anyN_getD l d (fun x => !p x), List.not_any_eq_all_not]; simp

theorem refValid {n : Nat} {p : SProblem} (hs : Sane p) (hn : ML < n) : m_ref56_Valid n p = some (validB p) := by
  have h1 : iter n (fun s => m_ref56_Valid_L1 n p s) (0 : Int) = some (if anyN p.fRoom.length (fun i => !inZ (p.fRoom.getD i 0) 0 20) = true then .inl false else .inr ()) := by
    refine iter_any p.fRoom.length n _ _ _ (fun j hj => ?_) ?_ (by have := hs.r; omega)
    · unfold m_ref56_Valid_L1
      simp only [show ((j : Int) < (p.fRoom.length : Int)) from by omega, decide_true, if_true, ix_get (0 : Int) hj, Option.bind_some, wadd1 hj hs.r]
      generalize p.fRoom.getD j 0 = v
      by_cases e1 : v < 0
      · simp [inZ, e1, show ¬ 0 ≤ v by omega]
      · by_cases e2 : 20 < v
        · simp [inZ, e1, e2, show ¬ v ≤ 20 by omega]
        · simp [inZ, e1, e2, show v ≤ 20 by omega, show 0 ≤ v by omega]
    · simp [m_ref56_Valid_L1]
  have h2 : iter n (fun s => m_ref56_Valid_L2 n p s) (0 : Int) = some (if anyN p.fCosts.length (fun i => !(decide ((p.fCosts.getD i []).length = p.fRoom.length) && (p.fCosts.getD i []).all (fun c => inZ c (-1) 10000))) = true then .inl false else .inr ()) := by
    refine iter_any p.fCosts.length n _ _ _ (fun j hj => ?_) ?_ (by have := hs.c; omega)
    · unfold m_ref56_Valid_L2
      have hrow : (p.fCosts.getD j []).length ≤ ML := hs.cs _ (by simp [hj])
      have h3 : iter n (fun s => m_ref56_Valid_L3 n p j s) (0 : Int) = some (if anyN (p.fCosts.getD j []).length (fun i => !inZ ((p.fCosts.getD j []).getD i 0) (-1) 10000) = true then .inl false else .inr ()) := by
        refine iter_any _ n _ _ _ (fun k hk => ?_) ?_ (by omega)
        · unfold m_ref56_Valid_L3
          simp only [ix_get ([] : List Int) hj, Option.bind_some, show ((k : Int) < ((p.fCosts.getD j []).length : Int)) from by omega, decide_true, if_true, ix_get (0 : Int) hk, wadd1 hk hrow, ite_bind]
          generalize (p.fCosts.getD j []).getD k 0 = v
          by_cases e1 : v < -1
          · simp [inZ, e1, show ¬ -1 ≤ v by omega]
          · by_cases e2 : 10000 < v
            · simp [inZ, e1, e2, ix_get (0 : Int) hk, show ¬ v ≤ 10000 by omega]
            · simp [inZ, e1, e2, show v ≤ 10000 by omega, show -1 ≤ v by omega]
        · simp only [m_ref56_Valid_L3, ix_get ([] : List Int) hj, Option.bind_some]
          simp
      simp only [show ((j : Int) < (p.fCosts.length : Int)) from by omega, decide_true, if_true, ix_get ([] : List Int) hj, Option.bind_some, wadd1 hj hs.c, h3, all_anyN _ (0 : Int)]
      by_cases e1 : (p.fCosts.getD j []).length = p.fRoom.length
      · simp only [e1, decide_true, Bool.not_true, Bool.false_eq_true, if_false, Bool.true_and, Bool.not_not]
        generalize anyN _ _ = b
        cases b <;> rfl
      · simp [-List.getD_eq_getElem?_getD, e1, show ¬ ((p.fCosts.getD j []).length : Int) = p.fRoom.length by omega]
    · simp [m_ref56_Valid_L2]
  unfold m_ref56_Valid
  rw [h1, h2]
  unfold validB
  rw [all_anyN p.fRoom (0 : Int), all_anyN p.fCosts ([] : List Int)]
  generalize anyN p.fRoom.length _ = b1
  generalize anyN p.fCosts.length _ = b2
  by_cases c1 : p.fCosts.length ≤ 12
  · by_cases c2 : p.fRoom.length ≤ 12
    · have e1 : ¬ (12 : Int) < p.fCosts.length := by omega
      have e2 : ¬ (12 : Int) < p.fRoom.length := by omega
      by_cases c3 : p.fPenalty < 0
      · simp [e1, e2, c3, inZ, show ¬ 0 ≤ p.fPenalty by omega]
      · by_cases c4 : 10000 < p.fPenalty
        · simp [e1, e2, c3, c4, inZ, show ¬ p.fPenalty ≤ 10000 by omega]
        · cases b1 <;> cases b2 <;> simp [e1, e2, c1, c2, c3, c4, inZ, show p.fPenalty ≤ 10000 by omega, show 0 ≤ p.fPenalty by omega]
    · simp [c2, show (12 : Int) < p.fRoom.length by omega]
  · simp [c1, show (12 : Int) < p.fCosts.length by omega]

/-- What a valid problem is. -/
structure VP (p : SProblem) : Prop where
  c : p.fCosts.length ≤ 12
  r : p.fRoom.length ≤ 12
  p1 : 0 ≤ p.fPenalty
  p2 : p.fPenalty ≤ 10000
  rm : ∀ i, i < p.fRoom.length → 0 ≤ p.fRoom.getD i 0 ∧ p.fRoom.getD i 0 ≤ 20
  row : ∀ i, i < p.fCosts.length → (p.fCosts.getD i []).length = p.fRoom.length
  co : ∀ i j, i < p.fCosts.length → j < p.fRoom.length → -1 ≤ (p.fCosts.getD i []).getD j 0 ∧ (p.fCosts.getD i []).getD j 0 ≤ 10000
theorem inZ_t {x lo hi : Int} : inZ x lo hi = true ↔ lo ≤ x ∧ x ≤ hi := by simp [inZ]
theorem vp_of {p : SProblem} (h : validB p = true) : VP p := by
  simp only [validB, Bool.and_eq_true, decide_eq_true_eq, inZ_t, List.all_eq_true] at h
  obtain ⟨⟨⟨⟨h1, h2⟩, h3, h4⟩, h5⟩, h6⟩ := h
  refine ⟨h1, h2, h3, h4, fun i hi => h5 _ (by simp [hi]), fun i hi => (h6 _ (by simp [hi])).1, fun i j hi hj => ?_⟩
  have hh := h6 (p.fCosts.getD i []) (by simp [hi])
  
  generalize p.fCosts.getD i [] = R at *
  exact hh.2 _ (by rw [← hh.1] at hj; simp [hj])
end Go.Proofs.Ythjinjinnklkgaa.Ab
