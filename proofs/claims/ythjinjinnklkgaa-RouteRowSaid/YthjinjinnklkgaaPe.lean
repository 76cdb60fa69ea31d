/- Chapter 56: the law RouteForms in plain Lean. Conditions: none. -/
import Derived.Test.YthjinjinnklkgaaPd
set_option maxRecDepth 100000
namespace Go.Proofs.Ythjinjinnklkgaa.Ab
open Go

theorem awake_yes : m_law56_awake FU = some true := by decide +kernel

theorem few56 {n : Nat} {p : SProblem} (hs : Sane p) (hn : ML < n) : ∃ b, m_ref56_Few n p = some b := by
  unfold m_ref56_Few
  have h1 : iter n (fun s => m_ref56_Few_L1 n p s) (0 : Int) = some (if anyN p.fCosts.length (fun i => decide ((14 : Int) < ((p.fCosts.getD i []).length : Int))) = true then .inl false else .inr ()) := by
    refine iter_any (ρ := Bool ⊕ Unit) p.fCosts.length n _ _ _ (fun j hj => ?_) ?_ (by have := hs.c; omega)
    · unfold m_ref56_Few_L1
      simp only [show ((j : Int) < (p.fCosts.length : Int)) from by omega, decide_true, if_true, ix_get ([] : List Int) hj, Option.bind_some, wadd1 hj hs.c]
      split <;> rfl
    · simp [m_ref56_Few_L1]
  rw [h1]
  simp only [Option.bind_some]
  split <;> exact ⟨_, rfl⟩

theorem routeForms_plain {p : SProblem} {a : List Int} {x : SPrices} (hs : Sane p) (hx1 : x.fAsks.length ≤ ML) (hx2 : x.fLenders.length ≤ ML) : m_law56_RouteForms FU p a x = some true := by
  have hn : ML < FU := by decide
  obtain ⟨b, hb⟩ := few56 hs hn
  obtain ⟨c, c1, c2, _⟩ := costs (a := a) hs hn
  obtain ⟨v, v1, v2⟩ := bounds (x := x) hs hx1 hx2 hn
  obtain ⟨k, k1, k2⟩ := checks (a := a) (x := x) hs hx1 hx2 hn
  have q1 := routeValid hs hn
  have q2 := refValid hs hn
  unfold m_law56_RouteForms
  generalize hF : FU = n at *
  have ha := awake_yes
  rw [hF] at ha
  simp only [ha, hb, c1, c2, v1, v2, k1, k2, q1, q2, Option.bind_some, Bool.not_true, Bool.not_false, if_true, decide_true, Bool.and_self, Bool.and_true, Bool.true_and, beq_self_eq_true]
  split <;> rfl
end Go.Proofs.Ythjinjinnklkgaa.Ab
