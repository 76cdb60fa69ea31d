/- The law RouteDual. Conditions: none. -/
import Derived.Test.YthjinjinnklkgaaRi
import Derived.Test.YthjinjinnklkgaaOk
namespace Go.Proofs.Ythjinjinnklkgaa.Ab
open Go
set_option maxRecDepth 100000 in
theorem awakeR : m_law56_awake FU = some true := by decide +kernel
theorem plain_RouteDual {p : SProblem} {a : List Int} {x : SPrices} (hs : Sane p) (hx1 : x.fAsks.length ≤ ML) (hx2 : x.fLenders.length ≤ ML) : m_law56_RouteDual FU p a x = some true := by
  unfold m_law56_RouteDual
  rw [awakeR, Option.bind_some]
  simp only [Bool.not_true, Bool.not_false, if_true]
  rw [show (⟨p.fCosts, p.fRoom, p.fPenalty⟩ : SProblem) = p from rfl, show (⟨x.fAsks, x.fLenders⟩ : SPrices) = x from rfl, refValid hs (by decide), Option.bind_some]
  cases hvb : validB p with
  | false => simp
  | true =>
    simp only [Bool.not_true, Bool.or_self, Bool.false_eq_true, if_false]
    obtain ⟨N, e, c1, c2, c3⟩ := cost_spec hs hvb a
    obtain ⟨M, f, b1, b2, b3⟩ := bound_spec (x := x) hs hvb hx1 hx2
    obtain ⟨b, y, s1, s2, s3⟩ := solve_ok hs hvb
    obtain ⟨k1, k2⟩ := check_ok hs hvb s2 s3
    rw [c1, Option.bind_some, b1, Option.bind_some, s1, Option.bind_some]
    dsimp only
    rw [k2, Option.bind_some]
    simp only [decide_true, Bool.not_true, Bool.or_self, Bool.not_false, if_true, show (⟨y.fAsks, y.fLenders⟩ : SPrices) = y from rfl, k1, Option.bind_some, Bool.false_eq_true, if_false]
    have h1 : (decide (f = 0) && decide (costA (Cf p) p.fPenalty (Af b) 0 p.fCosts.length < M)) = false := by
      by_cases hf : f = 0
      · obtain ⟨hF, hM⟩ := b2 hf
        have := weak hF s2.pm
        rw [decide_eq_true hf, decide_eq_false (by omega)]; rfl
      · rw [decide_eq_false hf]; rfl
    rw [h1]
    simp only [Bool.false_eq_true, if_false]
    by_cases he : e = 0
    · obtain ⟨hPA, hN⟩ := c2 he
      have := s2.op _ hPA.2
      rw [decide_eq_true he, decide_eq_true (by omega)]; rfl
    · rw [decide_eq_false he]; rfl
theorem plain_RouteDual2 {p : SProblem} {a : List Int} {x : SPrices} (h1 : Ok25 p) (_h2 : Ok23 a) (h3 : Ok27 x) : m_law56_RouteDual FU p a x = some true :=
  plain_RouteDual ⟨h1.1.1, h1.2.1.1, fun x hx => (h1.1.2 x hx).1⟩ h3.1.1 h3.2.1
end Go.Proofs.Ythjinjinnklkgaa.Ab
