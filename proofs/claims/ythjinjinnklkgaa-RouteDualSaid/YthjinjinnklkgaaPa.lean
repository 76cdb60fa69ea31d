/- Chapter 56: Valid of the program and of the reference. Conditions: none. -/
import Derived.Test.YthjinjinnklkgaaMi
import Derived.Test.YthjinjinnklkgaaPl
set_option maxRecDepth 100000
namespace Go.Proofs.Ythjinjinnklkgaa.Ab
open Go

/-- Sizes of a problem that every Go value keeps. -/
structure Sane (p : SProblem) : Prop where
  c : p.fCosts.length ≤ ML
  r : p.fRoom.length ≤ ML
  cs : ∀ x ∈ p.fCosts, x.length ≤ ML

def inZ (x lo hi : Int) : Bool := decide (lo ≤ x) && decide (x ≤ hi)
def validB (p : SProblem) : Bool :=
  decide (p.fCosts.length ≤ 12) && decide (p.fRoom.length ≤ 12) && inZ p.fPenalty 0 10000 && p.fRoom.all (fun x => inZ x 0 20) &&
    p.fCosts.all (fun row => decide (row.length = p.fRoom.length) && row.all (fun c => inZ c (-1) 10000))


theorem routeValid {n : Nat} {p : SProblem} (hs : Sane p) (hn : ML < n) : m_route_Valid n p = some (validB p) := by
  have hi : ∀ x lo hi, m_route_in n x lo hi = some (inZ x lo hi) := fun _ _ _ => rfl
  have h2 : m_slices_ContainsFunc_int_intx n p.fRoom (fun y1 => m_route_Valid_2 n y1) = some (p.fRoom.any fun x => !inZ x 0 20) :=
    contains_loop n p.fRoom _ _ (fun x _ => by simp [m_route_Valid_2, hi]) hs.r (by have := hs.r; omega)
  have h1 : m_slices_ContainsFunc_int_int n p.fCosts (fun y1 => m_route_Valid_1 n y1 p) = some (p.fCosts.any fun row => !(decide (row.length = p.fRoom.length) && row.all (fun c => inZ c (-1) 10000))) := by
    refine contains_loop n p.fCosts _ _ (fun x hx => ?_) hs.c (by have := hs.c; omega)
    have h3 : m_slices_ContainsFunc_int_intx n x (fun y1 => m_route_Valid_1_1 n y1) = some (x.any fun c => !inZ c (-1) 10000) :=
      contains_loop n x _ _ (fun y _ => by simp [m_route_Valid_1_1, hi]) (hs.cs x hx) (by have := hs.cs x hx; omega)
    simp only [m_route_Valid_1, h3]
    by_cases hl : x.length = p.fRoom.length
    · simp [hl, List.not_all_eq_any_not]
    · simp [hl, show ¬ (x.length : Int) = p.fRoom.length by omega]
  unfold m_route_Valid
  rw [hi]
  simp only [h1, h2, ite_bind, Option.bind_some]
  unfold validB
  by_cases c1 : p.fCosts.length ≤ 12
  · by_cases c2 : p.fRoom.length ≤ 12
    · cases c3 : inZ p.fPenalty 0 10000
      · have e1 : ¬ (12 : Int) < p.fCosts.length := by omega
        have e2 : ¬ (12 : Int) < p.fRoom.length := by omega
        simp [e1, e2, c3]
      · have e1 : ¬ (12 : Int) < p.fCosts.length := by omega
        have e2 : ¬ (12 : Int) < p.fRoom.length := by omega
        have q1 : (p.fCosts.any fun row => !(decide (row.length = p.fRoom.length) && row.all fun c => inZ c (-1) 10000)) = !(p.fCosts.all fun row => decide (row.length = p.fRoom.length) && row.all fun c => inZ c (-1) 10000) := List.not_all_eq_any_not.symm
        have q2 : (p.fRoom.any fun x => !inZ x 0 20) = !(p.fRoom.all fun x => inZ x 0 20) := List.not_all_eq_any_not.symm
        rw [q1, q2]
        generalize (p.fCosts.all fun row => decide (row.length = p.fRoom.length) && row.all fun c => inZ c (-1) 10000) = b1
        generalize (p.fRoom.all fun x => inZ x 0 20) = b2
        cases b1 <;> cases b2 <;> simp [e1, e2, c1, c2, c3]
    · simp [c2, show (12 : Int) < p.fRoom.length by omega]
  · simp [c1, show (12 : Int) < p.fCosts.length by omega]
end Go.Proofs.Ythjinjinnklkgaa.Ab
