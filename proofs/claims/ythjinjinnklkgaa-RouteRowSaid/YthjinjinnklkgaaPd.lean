/- Chapter 56: Bound and Check of the program and of the reference. Conditions: none. -/
import Derived.Test.YthjinjinnklkgaaPc
set_option maxRecDepth 100000
namespace Go.Proofs.Ythjinjinnklkgaa.Ab
open Go

section
variable (p : SProblem) (x : SPrices)
def hL (j : Nat) (s : Int) : Int := IntKind.i64.wrap (s - IntKind.i64.wrap (p.fRoom.getD j 0 * x.fLenders.getD j 0))
def hA (j : Nat) (s : Int) : Int := IntKind.i64.wrap (s + x.fAsks.getD j 0)
def dear (i : Nat) : Bool := anyN p.fRoom.length fun j => !decide ((p.fCosts.getD i []).getD j 0 = -1) && decide (IntKind.i64.wrap ((p.fCosts.getD i []).getD j 0 + x.fLenders.getD j 0) < x.fAsks.getD i 0)
end

variable {n : Nat} {p : SProblem} {x : SPrices}

theorem progL1 (hv : VP p) (hlen : x.fLenders.length = p.fRoom.length) (hn : ML < n) :
    iter n (fun s => m_route_Bound_L1 n p x s.1 s.2) ((0 : Int), (0 : Int)) = some (if anyN p.fRoom.length (fun j => !!decide (x.fLenders.getD j 0 < 0)) = true then .inl (0, 17) else .inr (foldN (hL p x) 0 p.fRoom.length 0)) := by
  have hr := hv.r
  refine iter_ok (ρ := (Int × Int) ⊕ Int) (fun j s => (s, (j : Int))) (fun j => !decide (x.fLenders.getD j 0 < 0)) (hL p x) (fun s => .inr s) (.inl (0, 17)) p.fRoom.length n 0 _ (fun j s hj => ?_) (fun s => ?_) (by simp only [ML] at hn; omega) rfl
  · unfold m_route_Bound_L1 hL
    simp only [show ((j : Int) < (x.fLenders.length : Int)) from by omega, decide_true, if_true, ix_get (0 : Int) (show j < x.fLenders.length by omega), ix_get (0 : Int) hj, Option.bind_some, wadd1 hj (show p.fRoom.length ≤ ML by simp only [ML]; omega)]
    generalize x.fLenders.getD j 0 = v
    by_cases e : v < 0
    · simp [e]
    · simp [e]
  · simp [m_route_Bound_L1, hlen]
theorem refL1 (hv : VP p) (hlen : x.fLenders.length = p.fRoom.length) (hn : ML < n) :
    iter n (fun s => m_ref56_Bound_L1 n p x s.1 s.2) ((0 : Int), (0 : Int)) = some (if anyN p.fRoom.length (fun j => !(inZ (x.fLenders.getD j 0) 0 1000000)) = true then .inl (0, 17) else .inr (foldN (hL p x) 0 p.fRoom.length 0)) := by
  have hr := hv.r
  refine iter_ok (ρ := (Int × Int) ⊕ Int) (fun j s => (s, (j : Int))) (fun j => inZ (x.fLenders.getD j 0) 0 1000000) (hL p x) (fun s => .inr s) (.inl (0, 17)) p.fRoom.length n 0 _ (fun j s hj => ?_) (fun s => ?_) (by simp only [ML] at hn; omega) rfl
  · unfold m_ref56_Bound_L1 hL inZ
    simp only [show ((j : Int) < (x.fLenders.length : Int)) from by omega, decide_true, if_true, ix_get (0 : Int) (show j < x.fLenders.length by omega), ix_get (0 : Int) hj, Option.bind_some, wadd1 hj (show p.fRoom.length ≤ ML by simp only [ML]; omega)]
    generalize x.fLenders.getD j 0 = v
    by_cases e : v < 0
    · simp [e, show ¬ 0 ≤ v by omega]
    · by_cases e2 : 1000000 < v
      · simp [e, e2, show ¬ v ≤ 1000000 by omega]
      · simp [e, e2, show v ≤ 1000000 by omega, show 0 ≤ v by omega]
  · simp [m_ref56_Bound_L1, hlen]
theorem progL3 (hv : VP p) (hlen : x.fLenders.length = p.fRoom.length) (hn : ML < n) {i : Nat} (hi : i < p.fCosts.length) :
    iter n (fun s => m_route_Bound_L3 n x (x.fAsks.getD i 0) (p.fCosts.getD i []) s) (0 : Int) = some (if dear p x i = true then .inl (0, 17) else .inr ()) := by
  have hr := hv.r
  have hrow := hv.row i hi
  refine iter_any (ρ := (Int × Int) ⊕ Unit) p.fRoom.length n _ _ _ (fun j hj => ?_) ?_ (by simp only [ML] at hn; omega)
  · unfold m_route_Bound_L3
    simp only [show ((j : Int) < ((p.fCosts.getD i []).length : Int)) from by omega, decide_true, if_true, ix_get (0 : Int) (show j < (p.fCosts.getD i []).length by omega), ix_get (0 : Int) (show j < x.fLenders.length by omega), Option.bind_some, wadd1 hj (show p.fRoom.length ≤ ML by simp only [ML]; omega), ite_bind]
    generalize (p.fCosts.getD i []).getD j 0 = v
    generalize x.fLenders.getD j 0 = y
    generalize x.fAsks.getD i 0 = z
    by_cases e : v = -1
    · simp [e]
    · by_cases e2 : IntKind.i64.wrap (v + y) < z
      · simp [e, e2]
      · simp [e, e2]
  · simp only [m_route_Bound_L3, hrow]; simp
theorem refL3 (hv : VP p) (hlen : x.fLenders.length = p.fRoom.length) (hlen2 : x.fAsks.length = p.fCosts.length) (hn : ML < n) {i : Nat} (hi : i < p.fCosts.length) :
    iter n (fun s => m_ref56_Bound_L3 n p x (i : Int) s) (0 : Int) = some (if dear p x i = true then .inl (0, 17) else .inr ()) := by
  have hr := hv.r
  have hrow := hv.row i hi
  refine iter_any (ρ := (Int × Int) ⊕ Unit) p.fRoom.length n _ _ _ (fun j hj => ?_) ?_ (by simp only [ML] at hn; omega)
  · unfold m_ref56_Bound_L3
    simp only [show ((j : Int) < (p.fRoom.length : Int)) from by omega, decide_true, if_true, ix_get ([] : List Int) hi, ix_get (0 : Int) (show j < (p.fCosts.getD i []).length by omega), ix_get (0 : Int) (show j < x.fLenders.length by omega), ix_get (0 : Int) (show i < x.fAsks.length by omega), Option.bind_some, wadd1 hj (show p.fRoom.length ≤ ML by simp only [ML]; omega), ite_bind]
    generalize (p.fCosts.getD i []).getD j 0 = v
    generalize x.fLenders.getD j 0 = y
    generalize x.fAsks.getD i 0 = z
    by_cases e : v = -1
    · simp [e]
    · by_cases e2 : IntKind.i64.wrap (v + y) < z
      · simp [e, e2]
      · simp [e, e2]
  · simp [m_ref56_Bound_L3]
theorem progL2 (hv : VP p) (hlen : x.fLenders.length = p.fRoom.length) (hlen2 : x.fAsks.length = p.fCosts.length) (hn : ML < n) (s0 : Int) :
    iter n (fun s => m_route_Bound_L2 n p x s.1 s.2) (s0, (0 : Int)) = some (if anyN p.fCosts.length (fun i => !(!decide (p.fPenalty < x.fAsks.getD i 0) && !dear p x i)) = true then .inl (0, 17) else .inr (foldN (hA x) 0 p.fCosts.length s0)) := by
  have hc := hv.c
  refine iter_ok (ρ := (Int × Int) ⊕ Int) (fun j s => (s, (j : Int))) (fun i => !decide (p.fPenalty < x.fAsks.getD i 0) && !dear p x i) (hA x) (fun s => .inr s) (.inl (0, 17)) p.fCosts.length n s0 _ (fun j s hj => ?_) (fun s => ?_) (by simp only [ML] at hn; omega) rfl
  · unfold m_route_Bound_L2 hA
    simp only [show ((j : Int) < (x.fAsks.length : Int)) from by omega, decide_true, if_true, ix_get (0 : Int) (show j < x.fAsks.length by omega), ix_get ([] : List Int) hj, Option.bind_some, wadd1 hj (show p.fCosts.length ≤ ML by simp only [ML]; omega), progL3 hv hlen hn hj]
    generalize x.fAsks.getD j 0 = z
    by_cases e : p.fPenalty < z
    · simp [e]
    · cases dear p x j <;> simp [e]
  · simp [m_route_Bound_L2, hlen2]
theorem refL2 (hv : VP p) (hlen : x.fLenders.length = p.fRoom.length) (hlen2 : x.fAsks.length = p.fCosts.length) (hn : ML < n) (s0 : Int) :
    iter n (fun s => m_ref56_Bound_L2 n p x s.1 s.2) (s0, (0 : Int)) = some (if anyN p.fCosts.length (fun i => !(inZ (x.fAsks.getD i 0) (-1000000) p.fPenalty && !dear p x i)) = true then .inl (0, 17) else .inr (foldN (hA x) 0 p.fCosts.length s0)) := by
  have hc := hv.c
  refine iter_ok (ρ := (Int × Int) ⊕ Int) (fun j s => (s, (j : Int))) (fun i => inZ (x.fAsks.getD i 0) (-1000000) p.fPenalty && !dear p x i) (hA x) (fun s => .inr s) (.inl (0, 17)) p.fCosts.length n s0 _ (fun j s hj => ?_) (fun s => ?_) (by simp only [ML] at hn; omega) rfl
  · unfold m_ref56_Bound_L2 hA inZ
    simp only [show ((j : Int) < (x.fAsks.length : Int)) from by omega, decide_true, if_true, ix_get (0 : Int) (show j < x.fAsks.length by omega), ix_get ([] : List Int) hj, Option.bind_some, wadd1 hj (show p.fCosts.length ≤ ML by simp only [ML]; omega), refL3 hv hlen hlen2 hn hj, ite_bind]
    generalize x.fAsks.getD j 0 = z
    by_cases e1 : z < -1000000
    · simp [e1, show ¬ -1000000 ≤ z by omega]
    · by_cases e : p.fPenalty < z
      · simp [e, e1, show ¬ z ≤ p.fPenalty by omega]
      · cases dear p x j <;> simp [e, e1, show z ≤ p.fPenalty by omega, show -1000000 ≤ z by omega]
  · simp [m_ref56_Bound_L2, hlen2]

/-- Bound says what the reference says. -/
theorem bounds (hs : Sane p) (hx1 : x.fAsks.length ≤ ML) (hx2 : x.fLenders.length ≤ ML) (hn : ML < n) : ∃ r, m_route_Bound n p x = some r ∧ m_ref56_Bound n p x = some r := by
  unfold m_route_Bound m_ref56_Bound
  simp only [routeValid hs hn, refValid hs hn, Option.bind_some]
  cases hvb : validB p
  · exact ⟨_, rfl, rfl⟩
  · have hv := vp_of hvb
    have k1 : m_slices_ContainsFunc_int_intx n x.fAsks (fun y1 => m_route_Bound_1 n y1) = some (x.fAsks.any fun v => !inZ v (-1000000) 1000000) :=
      contains_loop n _ _ _ (fun y _ => rfl) hx1 (by omega)
    have k2 : m_slices_ContainsFunc_int_intx n x.fLenders (fun y1 => m_route_Bound_1 n y1) = some (x.fLenders.any fun v => !inZ v (-1000000) 1000000) :=
      contains_loop n _ _ _ (fun y _ => rfl) hx2 (by omega)
    simp only [k1, k2, Bool.not_true, Bool.false_eq_true, if_false]
    by_cases hl2 : x.fAsks.length = p.fCosts.length
    · by_cases hl : x.fLenders.length = p.fRoom.length
      · simp only [hl, hl2, decide_true, Bool.not_true, Bool.or_false, Bool.not_false, if_true, Bool.false_or, Option.bind_some, progL1 hv hl hn, refL1 hv hl hn]
        rw [← anyN_getD x.fAsks (0 : Int) (fun v => !inZ v (-1000000) 1000000), ← anyN_getD x.fLenders (0 : Int) (fun v => !inZ v (-1000000) 1000000), hl, hl2]
        have hp := hv.p2
        cases e1 : anyN p.fRoom.length (fun j => !(inZ (x.fLenders.getD j 0) 0 1000000))
        · have f1 := anyN_f.1 e1
          have e2 : anyN p.fRoom.length (fun i => !inZ (x.fLenders.getD i 0) (-1000000) 1000000) = false := anyN_f.2 fun i hi => by
            have := f1 i hi; simp only [inZ] at this ⊢; simp [-List.getD_eq_getElem?_getD] at this ⊢; omega
          have e3 : anyN p.fRoom.length (fun j => !!decide (x.fLenders.getD j 0 < 0)) = false := anyN_f.2 fun i hi => by
            have := f1 i hi; simp only [inZ] at this ⊢; simp [-List.getD_eq_getElem?_getD] at this ⊢; omega
          rw [e2, e3]
          simp only [Bool.false_eq_true, if_false, refL2 hv hl hl2 hn, progL2 hv hl hl2 hn, Option.bind_some]
          cases e4 : anyN p.fCosts.length (fun i => !(inZ (x.fAsks.getD i 0) (-1000000) p.fPenalty && !dear p x i))
          · have f4 := anyN_f.1 e4
            have e5 : anyN p.fCosts.length (fun i => !inZ (x.fAsks.getD i 0) (-1000000) 1000000) = false := anyN_f.2 fun i hi => by
              have := f4 i hi; simp only [inZ] at this ⊢; simp [-List.getD_eq_getElem?_getD] at this ⊢; omega
            have e6 : anyN p.fCosts.length (fun i => !(!decide (p.fPenalty < x.fAsks.getD i 0) && !dear p x i)) = false := anyN_f.2 fun i hi => by
              have := f4 i hi; simp only [inZ] at this ⊢; simp [-List.getD_eq_getElem?_getD] at this ⊢; exact ⟨by omega, this.2⟩
            rw [e5, e6]
            exact ⟨_, rfl, rfl⟩
          · obtain ⟨i, hi, h4⟩ := anyN_t.1 e4
            cases e5 : anyN p.fCosts.length (fun i => !inZ (x.fAsks.getD i 0) (-1000000) 1000000)
            · have f5 := anyN_f.1 e5 i hi
              have e6 : anyN p.fCosts.length (fun i => !(!decide (p.fPenalty < x.fAsks.getD i 0) && !dear p x i)) = true := anyN_t.2 ⟨i, hi, by
                simp only [inZ] at f5 h4; simp [-List.getD_eq_getElem?_getD] at f5 h4 ⊢
                by_cases q : p.fPenalty < x.fAsks.getD i 0
                · exact .inl q
                · rcases h4 with (h4 | h4) | h4
                  · omega
                  · exact absurd h4 q
                  · exact .inr h4⟩
              rw [e6]
              exact ⟨_, rfl, rfl⟩
            · exact ⟨_, rfl, rfl⟩
        · obtain ⟨i, hi, h1⟩ := anyN_t.1 e1
          have hfin : ∀ b : Bool, ∃ r : Int × Int, (if b = true then some ((0 : Int), (17 : Int)) else some (0, 17)) = some r ∧ some ((0 : Int), (17 : Int)) = some r := fun b => ⟨(0, 17), by cases b <;> rfl, rfl⟩
          cases e2 : anyN p.fRoom.length (fun i => !inZ (x.fLenders.getD i 0) (-1000000) 1000000)
          · have f2 := anyN_f.1 e2 i hi
            have e3 : anyN p.fRoom.length (fun j => !!decide (x.fLenders.getD j 0 < 0)) = true := anyN_t.2 ⟨i, hi, by
              simp only [inZ] at f2 h1; simp [-List.getD_eq_getElem?_getD] at f2 h1 ⊢; omega⟩
            rw [e3]
            cases anyN p.fCosts.length (fun i => !inZ (x.fAsks.getD i 0) (-1000000) 1000000) <;> exact ⟨_, rfl, rfl⟩
          · cases anyN p.fCosts.length (fun i => !inZ (x.fAsks.getD i 0) (-1000000) 1000000) <;> exact ⟨_, rfl, rfl⟩
      · have e : ¬ ((x.fLenders.length : Int) = p.fRoom.length) := by omega
        simp only [e, hl2, decide_true, decide_false, Bool.not_true, Bool.not_false, Bool.false_or, Bool.or_true, Bool.true_or, if_true, Bool.false_eq_true, if_false, Option.bind_some]
        exact ⟨_, rfl, rfl⟩
    · have e : ¬ ((x.fAsks.length : Int) = p.fCosts.length) := by omega
      simp only [e, decide_false, Bool.not_true, Bool.not_false, Bool.true_or, if_true, Bool.false_eq_true, if_false, Option.bind_some]
      exact ⟨_, rfl, rfl⟩

/-- Check says what the reference says. -/
theorem checks {a : List Int} (hs : Sane p) (hx1 : x.fAsks.length ≤ ML) (hx2 : x.fLenders.length ≤ ML) (hn : ML < n) : ∃ r, m_route_Check n p a x = some r ∧ m_ref56_Check n p a x = some r := by
  obtain ⟨c, c1, c2, _⟩ := costs (a := a) hs hn
  obtain ⟨b, b1, b2⟩ := bounds (x := x) hs hx1 hx2 hn
  unfold m_route_Check m_ref56_Check
  simp only [c1, c2, b1, b2, Option.bind_some]
  split
  · exact ⟨_, rfl, rfl⟩
  · split <;> exact ⟨_, rfl, rfl⟩
end Go.Proofs.Ythjinjinnklkgaa.Ab
