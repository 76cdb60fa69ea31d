/- The reference's search for the best assignment. Conditions: none. -/
import Derived.Test.YthjinjinnklkgaaRi
namespace Go.Proofs.Ythjinjinnklkgaa.Ab
open Go
theorem sameRefl {n : Nat} {a : List Int} (ha : a.length ≤ ML) (hn : ML < n) : m_ref56_Same n a a = some true := by
  unfold m_ref56_Same
  have h1 : iter n (fun s => m_ref56_Same_L1 n a a s) (0 : Int) = some (if anyN a.length (fun _ => false) = true then .inl false else .inr ()) := by
    refine iter_any (ρ := Bool ⊕ Unit) a.length n _ _ _ (fun j hj => ?_) ?_ (by omega)
    · unfold m_ref56_Same_L1
      simp only [show ((j : Int) < (a.length : Int)) from by omega, decide_true, if_true, ix_get (0 : Int) hj, Option.bind_some, wadd1 hj ha]
      simp
    · simp [m_ref56_Same_L1]
  rw [h1, anyN_f.2 (fun _ _ => rfl)]
  simp
section
variable {p : SProblem}
theorem ref_perm (hs : Sane p) (hvb : validB p = true) (a : List Int) : ∃ b, m_ref56_Permitted FU p a = some b ∧ (b = true ↔ PermA p a) ∧ (b = true → m_ref56_cost FU p a = some (costA (Cf p) p.fPenalty (Af a) 0 p.fCosts.length)) := by
  obtain ⟨N, e, c1, c2, c3⟩ := cost_spec hs hvb a
  obtain ⟨r, r1, r2, _⟩ := costs (a := a) hs (show ML < FU by decide)
  obtain rfl : r = (N, e) := Option.some.inj (r1.symm.trans c1)
  unfold m_ref56_Cost at r2
  rw [show (⟨p.fCosts, p.fRoom, p.fPenalty⟩ : SProblem) = p from rfl, refValid hs (by decide), hvb, Option.bind_some] at r2
  simp only [Bool.not_true, Bool.false_eq_true, if_false] at r2
  cases hp : m_ref56_Permitted FU p a with
  | none => rw [hp] at r2; cases r2
  | some b =>
    rw [hp, Option.bind_some] at r2
    cases b with
    | false =>
      simp only [Bool.not_false, if_true, Option.some.injEq, Prod.mk.injEq] at r2
      refine ⟨false, rfl, ⟨fun h => by simp at h, fun h => ?_⟩, fun h => by simp at h⟩
      have := c3 h
      omega
    | true =>
      simp only [Bool.not_true, Bool.false_eq_true, if_false] at r2
      cases hc : m_ref56_cost FU p a with
      | none => rw [hc] at r2; cases r2
      | some c =>
        rw [hc, Option.bind_some] at r2
        simp only [Option.some.injEq, Prod.mk.injEq] at r2
        obtain ⟨rfl, rfl⟩ := r2
        obtain ⟨d1, d2⟩ := c2 rfl
        exact ⟨true, rfl, ⟨fun _ => d1, fun _ => rfl⟩, fun _ => by rw [d2]⟩
def cosA (p : SProblem) (a : List Int) : Int := costA (Cf p) p.fPenalty (Af a) 0 p.fCosts.length
/-- a is before B, or is it. -/
def Lex (p : SProblem) (a B : List Int) : Prop :=
  (∀ z, z < p.fCosts.length → Af B z = Af a z) ∨ ∃ z, z < p.fCosts.length ∧ (∀ w, w < z → Af B w = Af a w) ∧ Af a z < Af B z
/-- What a search over the assignments of V makes of the best one so far. -/
def Res (p : SProblem) (V : List Int → Prop) (s t : List Int × Bool) : Prop :=
  (t = s ∧ ∀ B, PermA p B → V B → s.2 = true ∧ cosA p s.1 ≤ cosA p B) ∨
    (t.2 = true ∧ PermA p t.1 ∧ V t.1 ∧ (s.2 = true → cosA p t.1 < cosA p s.1) ∧ ∀ B, PermA p B → V B → cosA p t.1 ≤ cosA p B ∧ (cosA p B = cosA p t.1 → Lex p t.1 B))
theorem Res.join {V W U : List Int → Prop} {s t u : List Int × Bool} (h1 : Res p V s t) (h2 : Res p W t u) (hU : ∀ B, PermA p B → (U B ↔ V B ∨ W B)) (hb : ∀ A B, V A → W B → Lex p A B) : Res p U s u := by
  rcases h1 with ⟨rfl, h1⟩ | ⟨a1, a2, a3, a4, a5⟩
  · rcases h2 with ⟨rfl, h2⟩ | ⟨b1, b2, b3, b4, b5⟩
    · exact .inl ⟨rfl, fun B hB hV => ((hU B hB).1 hV).elim (h1 B hB) (h2 B hB)⟩
    · refine .inr ⟨b1, b2, (hU _ b2).2 (.inr b3), b4, fun B hB hV => ?_⟩
      rcases (hU B hB).1 hV with h | h
      · obtain ⟨c1, c2⟩ := h1 B hB h
        have := b4 c1
        exact ⟨by omega, fun h => by omega⟩
      · exact b5 B hB h
  · rcases h2 with ⟨rfl, h2⟩ | ⟨b1, b2, b3, b4, b5⟩
    · refine .inr ⟨a1, a2, (hU _ a2).2 (.inl a3), a4, fun B hB hV => ?_⟩
      rcases (hU B hB).1 hV with h | h
      · exact a5 B hB h
      · exact ⟨(h2 B hB h).2, fun _ => hb _ _ a3 h⟩
    · have hlt := b4 a1
      refine .inr ⟨b1, b2, (hU _ b2).2 (.inr b3), fun h => by have := a4 h; omega, fun B hB hV => ?_⟩
      rcases (hU B hB).1 hV with h | h
      · have := (a5 B hB h).1
        exact ⟨by omega, fun h => by omega⟩
      · exact b5 B hB h
/-- B begins so. -/
def Ext (b B : List Int) : Prop := ∀ w, w < b.length → Af B w = Af b w
theorem PermA.rng {B : List Int} (h : PermA p B) {z : Nat} (hz : z < p.fCosts.length) : -1 ≤ Af B z ∧ Af B z < p.fRoom.length := by
  rcases okX_cases (h.2.ok z (by omega) (by omega)) with e | ⟨j, e, hj, _⟩ <;> omega
theorem ext_snoc {b B : List Int} {x : Int} : Ext (b ++ [x]) B ↔ Ext b B ∧ Af B b.length = x := by
  constructor
  · intro h
    refine ⟨fun w hw => ?_, ?_⟩
    · have := h w (by simp; omega)
      rw [this, Af_snoc, if_neg (by omega)]
    · have := h b.length (by simp)
      rw [this, Af_snoc, if_pos rfl]
  · rintro ⟨h1, h2⟩ w hw
    simp only [List.length_append, List.length_cons, List.length_nil] at hw
    rw [Af_snoc]
    by_cases e : w = b.length
    · subst e; rw [if_pos rfl, h2]
    · rw [if_neg e]; exact h1 w (by omega)
theorem ext_full {b B : List Int} (hb : b.length = p.fCosts.length) (hB : B.length = p.fCosts.length) (h : Ext b B) : B = b := by
  apply List.ext_getElem (by omega)
  intro i h1 h2
  have := h i h2
  simpa [Af, h1, h2] using this
theorem assign_ok (hs : Sane p) (hvb : validB p = true) : ∀ (d k : Nat), d < k → ∀ (b : List Int), b.length + d = p.fCosts.length → ∀ s : List Int × Bool, (s.2 = true → PermA p s.1) →
    ∃ t, m_ref56_assign_R FU k p b s.1 s.2 = some t ∧ (t.2 = true → PermA p t.1) ∧ Res p (Ext b) s t
  | d, 0, h, _, _, _, _ => by omega
  | 0, k + 1, _, b, hb, ⟨best, any⟩, hany => by
    have hv := vp_of hvb
    have hc := hv.c
    simp only [m_ref56_assign_R, m_ref56_assign_B]
    rw [decide_eq_true (show (b.length : Int) = (p.fCosts.length : Int) by omega), if_pos rfl]
    rw [show (⟨p.fCosts, p.fRoom, p.fPenalty⟩ : SProblem) = p from rfl]
    obtain ⟨v, v1, v2, v3⟩ := ref_perm hs hvb b
    rw [v1, Option.bind_some]
    have only : ∀ B, PermA p B → Ext b B → B = b := fun B hB h => ext_full (by omega) hB.1 h
    cases v with
    | false =>
      simp only [Bool.false_and, Bool.false_eq_true, if_false, Option.bind_some]
      refine ⟨_, rfl, hany, .inl ⟨rfl, fun B hB h => ?_⟩⟩
      have := only B hB h
      subst this
      exact absurd (v2.2 hB) (by simp)
    | true =>
      have hP := v2.1 rfl
      have hcb := v3 rfl
      rw [app_some (by decide) (by simp; omega), List.nil_append]
      cases any with
      | false =>
        simp only [Bool.not_false, Bool.not_true, Bool.and_false, Bool.true_and, Bool.true_or, Bool.false_eq_true, if_false, if_true, Option.bind_some]
        refine ⟨_, rfl, fun _ => hP, .inr ⟨rfl, hP, fun _ _ => rfl, fun h => by simp at h, fun B hB h => ?_⟩⟩
        have := only B hB h
        subst this
        exact ⟨Int.le_refl _, fun _ => .inl fun _ _ => rfl⟩
      | true =>
        obtain ⟨v', w1, w2, w3⟩ := ref_perm hs hvb best
        have hcc := w3 (w2.2 (hany rfl))
        simp only [Bool.not_true, Bool.not_false, Bool.and_true, Bool.true_and, Bool.false_or, if_true, hcb, hcc, Option.bind_some]
        by_cases hlt : cosA p b < cosA p best
        · rw [decide_eq_true (show costA (Cf p) p.fPenalty (Af b) 0 p.fCosts.length < costA (Cf p) p.fPenalty (Af best) 0 p.fCosts.length from hlt), if_pos rfl]
          refine ⟨_, rfl, fun _ => hP, .inr ⟨rfl, hP, fun _ _ => rfl, fun _ => hlt, fun B hB h => ?_⟩⟩
          have := only B hB h
          subst this
          exact ⟨Int.le_refl _, fun _ => .inl fun _ _ => rfl⟩
        · rw [decide_eq_false (show ¬ costA (Cf p) p.fPenalty (Af b) 0 p.fCosts.length < costA (Cf p) p.fPenalty (Af best) 0 p.fCosts.length from hlt), if_neg (by simp)]
          refine ⟨_, rfl, hany, .inl ⟨rfl, fun B hB h => ?_⟩⟩
          have := only B hB h
          subst this
          exact ⟨rfl, by dsimp only; omega⟩
  | d + 1, k + 1, hdk, b, hb, ⟨best, any⟩, hany => by
    have hv := vp_of hvb
    have hc := hv.c
    have hm := hv.r
    simp only [m_ref56_assign_R, m_ref56_assign_B]
    rw [decide_eq_false (show ¬ (b.length : Int) = (p.fCosts.length : Int) by omega), if_neg (by simp)]
    obtain ⟨t, t1, t2⟩ := iter_inv (σ := List Int × Bool × Int) (τ := List Int × Bool) (f := fun s => m_ref56_assign_B_L1 FU (m_ref56_assign_R FU k) p b s.1 s.2.1 s.2.2)
      (I := fun kk s => -1 ≤ s.2.2 ∧ s.2.2 + kk = p.fRoom.length ∧ (s.2.1 = true → PermA p s.1) ∧ Res p (fun B => Ext b B ∧ Af B b.length < s.2.2) (best, any) (s.1, s.2.1))
      (Q := fun t => (t.2 = true → PermA p t.1) ∧ Res p (Ext b) (best, any) t) (by
        rintro kk ⟨be, an, j⟩ ⟨h1, h2, h3, h4⟩
        dsimp only at h1 h2 h3 h4
        simp only [m_ref56_assign_B_L1]
        by_cases hk : kk = 0
        · right
          rw [decide_eq_false (by omega)]
          refine ⟨(be, an), rfl, h3, ?_⟩
          have : j = p.fRoom.length := by omega
          rcases h4 with ⟨e, h4⟩ | ⟨e, h4, h5, h6, h7⟩
          · exact .inl ⟨e, fun B hB h => h4 B hB ⟨h, by have := hB.rng (z := b.length) (by omega); omega⟩⟩
          · exact .inr ⟨e, h4, h5.1, h6, fun B hB h => h7 B hB ⟨h, by have := hB.rng (z := b.length) (by omega); omega⟩⟩
        · left
          rw [decide_eq_true (show j < (p.fRoom.length : Int) by omega), if_pos rfl, app_some (by decide) (by simp; omega), List.nil_append, Option.bind_some, app_some (by decide) (by simp; omega), Option.bind_some]
          obtain ⟨t, u1, u2, u3⟩ := assign_ok hs hvb d k (by omega) (b ++ [j]) (by simp; omega) (be, an) h3
          rw [show (⟨p.fCosts, p.fRoom, p.fPenalty⟩ : SProblem) = p from rfl, u1, Option.bind_some, w64 (by omega) (by omega)]
          refine ⟨_, kk - 1, rfl, by omega, by dsimp only; omega, by dsimp only; omega, u2, h4.join u3 (fun B hB => ?_) (fun A B hA hB => ?_)⟩
          · rw [ext_snoc]
            dsimp only
            constructor
            · rintro ⟨g1, g2⟩
              by_cases e : Af B b.length = j
              · exact .inr ⟨g1, e⟩
              · exact .inl ⟨g1, by omega⟩
            · rintro (⟨g1, g2⟩ | ⟨g1, g2⟩)
              · exact ⟨g1, by omega⟩
              · exact ⟨g1, by omega⟩
          · obtain ⟨g1, g2⟩ := ext_snoc.1 hB
            exact .inr ⟨b.length, by omega, fun w hw => by rw [g1 w hw, hA.1 w hw], by rw [g2]; exact hA.2⟩)
      (p.fRoom.length + 1) FU (best, any, -1) ⟨by dsimp only; omega, by dsimp only; omega, hany, .inl ⟨rfl, fun B hB h => by have := hB.rng (z := b.length) (by omega); have := h.2; dsimp only at this; omega⟩⟩ (by simp only [FU]; omega)
    rw [t1, Option.bind_some]
    exact ⟨t, rfl, t2.1, t2.2⟩
theorem best_ok (hs : Sane p) (hvb : validB p = true) {a : List Int} (ha : Best p a) : m_ref56_Best FU p = some (a, 0) := by
  have hv := vp_of hvb
  have hc := hv.c
  unfold m_ref56_Best
  rw [show (⟨p.fCosts, p.fRoom, p.fPenalty⟩ : SProblem) = p from rfl, refValid hs (by decide), hvb, Option.bind_some]
  simp only [Bool.not_true, Bool.false_eq_true, if_false]
  obtain ⟨t, t1, t2, t3⟩ := assign_ok hs hvb p.fCosts.length FU (by simp only [FU]; omega) [] (by simp) ([], false) (fun h => by simp at h)
  dsimp only at t1
  unfold m_ref56_assign
  rw [t1, Option.bind_some]
  have hPA : PermA p a := ⟨ha.al, ha.pm⟩
  rcases t3 with ⟨_, h⟩ | ⟨b1, b2, b3, b4, b5⟩
  · exact absurd (h a hPA (fun w hw => by simp at hw)).1 (by simp)
  · have h1 := b5 a hPA (fun w hw => by simp at hw)
    have h2 := ha.op _ b2.2
    have e : cosA p a = cosA p t.1 := by unfold cosA at *; omega
    have h3 := h1.2 e
    have h4 := ha.lx _ b2.2 (by unfold cosA at e; omega)
    have : a = t.1 := by
      apply ext_full (p := p) b2.1 hPA.1
      intro w hw
      rw [b2.1] at hw
      rcases h3 with h3 | ⟨z, z1, z2, z3⟩
      · exact h3 w hw
      · rcases h4 with h4 | ⟨y, y1, y2, y3⟩
        · exact (h4 w hw).symm
        · exfalso
          rcases Nat.lt_trichotomy y z with h | h | h
          · have := z2 y h; omega
          · subst h; omega
          · have := y2 z h; omega
    rw [this]
end
end Go.Proofs.Ythjinjinnklkgaa.Ab
