/- The law RouteSolve. Conditions: none. -/
import Derived.Test.YthjinjinnklkgaaRk
import Derived.Test.YthjinjinnklkgaaRj
namespace Go.Proofs.Ythjinjinnklkgaa.Ab
open Go
theorem plain_RouteSolve {p : SProblem} (hs : Sane p) : m_law56_RouteSolve FU p = some true := by
  unfold m_law56_RouteSolve
  rw [awakeR, Option.bind_some]
  simp only [Bool.not_true, Bool.not_false, if_true]
  obtain ⟨b, hb⟩ := few56 hs (show ML < FU by decide)
  rw [show (⟨p.fCosts, p.fRoom, p.fPenalty⟩ : SProblem) = p from rfl, hb, Option.bind_some]
  cases b with
  | false => simp
  | true =>
    simp only [Bool.not_true, Bool.or_self, Bool.false_eq_true, if_false]
    cases hvb : validB p with
    | false =>
      have e1 : m_route_Solve FU p = some ([], (⟨[], []⟩ : SPrices), (1 : Int)) := by
        unfold m_route_Solve
        rw [show (⟨p.fCosts, p.fRoom, p.fPenalty⟩ : SProblem) = p from rfl, routeValid hs (by decide), hvb]; rfl
      have e2 : m_ref56_Best FU p = some ([], (1 : Int)) := by
        unfold m_ref56_Best
        rw [show (⟨p.fCosts, p.fRoom, p.fPenalty⟩ : SProblem) = p from rfl, refValid hs (by decide), hvb]; rfl
      rw [e1, Option.bind_some, e2, Option.bind_some]
      simp [sameRefl (n := FU) (a := ([] : List Int)) (by simp) (by decide)]
    | true =>
      obtain ⟨a, y, s1, s2, s3⟩ := solve_ok hs hvb
      obtain ⟨k1, k2⟩ := check_ok hs hvb s2 s3
      have hv := vp_of hvb
      have hc := hv.c
      have hm := hv.r
      obtain ⟨r, r1, r2⟩ := checks (a := a) (x := y) hs (by rw [s3.l1]; simp only [ML]; omega) (by rw [s3.l2]; simp only [ML]; omega) (show ML < FU by decide)
      obtain rfl : r = 0 := Option.some.inj (r1.symm.trans k1)
      rw [s1, Option.bind_some, best_ok hs hvb s2, Option.bind_some]
      dsimp only
      rw [show (⟨y.fAsks, y.fLenders⟩ : SPrices) = y from rfl, r2, k1, sameRefl (n := FU) (a := a) (by rw [s2.al]; simp only [ML]; omega) (by decide)]
      rfl
theorem plain_RouteSolve2 {p : SProblem} (h1 : Ok25 p) : m_law56_RouteSolve FU p = some true := plain_RouteSolve ⟨h1.1.1, h1.2.1.1, fun x hx => (h1.1.2 x hx).1⟩
end Go.Proofs.Ythjinjinnklkgaa.Ab
