/- The lines of an explanation, and outcomes, in plain Lean. Conditions: none. -/
import Derived.Test.YtgcmhhcopeiomaaGreatDva
namespace Go.Proofs.YtgcmhhcopeiomaaGreat.Ab
open Go

theorem reffac_loop (m : A72) (o : A7) : iter FU (fun s => m_ref31_Factors_L1 FU m o s.1 s.2) ([], (0 : Int)) = some (if oin o = true then .inr (fac m o) else .inl ([], 1)) := by
  obtain ⟨t, h1, h2⟩ := iter_inv (σ := List SRatio × Int) (f := fun s => m_ref31_Factors_L1 FU m o s.1 s.2) (I := fun k s => ∃ i : Nat, s.2 = i ∧ i + k = 7 ∧ s.1.length ≤ i ∧ (∀ j, j < i → 0 ≤ o.l.getD j 0 ∧ o.l.getD j 0 ≤ 3) ∧ s.1 ++ fz (m.l.drop i) (o.l.drop i) = fac m o) (Q := fun t : ((List SRatio) × Int) ⊕ (List SRatio) => t = if oin o = true then .inr (fac m o) else .inl ([], 1)) (by
    rintro k ⟨l, c⟩ ⟨i, h1, h2, h3, h5, h4⟩
    dsimp only at h1 h3 h4
    subst h1
    simp only [m_ref31_Factors_L1]
    by_cases hk : k = 0
    · right
      have e0 : i = 7 := by omega
      subst e0
      refine ⟨.inr l, by simp, ?_⟩
      rw [List.drop_eq_nil_of_le (by simp [A72.l]), List.drop_eq_nil_of_le (by simp [A7.l])] at h4
      have ho : oin o = true := oin_iff.2 fun x hx => by
        obtain ⟨j, hj, rfl⟩ := List.getElem_of_mem hx
        have := h5 j (by simpa [A7.l] using hj)
        simpa [hj] using this
      rw [if_pos ho]
      simpa [fz] using h4
    · have hi : i < 7 := by omega
      have ho : i < o.l.length := by simpa [A7.l] using hi
      have hm : i < m.l.length := by simpa [A72.l] using hi
      rw [if_pos (by simp; omega), ix_get 0 ho, Option.bind_some, ix_get default hm, Option.bind_some, wadd1 hi (by decide)]
      rw [fz_drop hm ho] at h4
      obtain ⟨x, hx⟩ : ∃ x, o.l.getD i 0 = x := ⟨_, rfl⟩
      have hmem : x ∈ o.l := by rw [← hx]; simp [ho]
      rw [hx] at h4 ⊢
      by_cases hb : x < 0 ∨ 3 < x
      · right
        have hno : oin o = false := by
          cases hq : oin o with
          | false => rfl
          | true => have := oin_iff.1 hq x hmem; omega
        refine ⟨.inl ([], 1), ?_, by rw [hno]; simp⟩
        rcases hb with hb | hb
        · simp [hb]
        · simp [show ¬ x < 0 by omega, hb]
      · left
        have b1 : ¬ x < 0 := by omega
        have b2 : ¬ 3 < x := by omega
        have h5' : ∀ j, j < i + 1 → 0 ≤ o.l.getD j 0 ∧ o.l.getD j 0 ≤ 3 := fun j hj => by
          by_cases hji : j = i
          · subst hji; rw [hx]; omega
          · exact h5 j (by omega)
        simp only [b1, b2, decide_false, Bool.not_false, if_true, Option.bind_some, Bool.or_self, Bool.false_eq_true, if_false]
        by_cases hx0 : x = 0
        · subst hx0
          simp only [if_pos, List.nil_append] at h4
          exact ⟨(l, ((i + 1 : Nat) : Int)), k - 1, by simp, by omega, i + 1, rfl, by omega, by show l.length ≤ i + 1; omega, h5', h4⟩
        · simp only [if_neg hx0] at h4
          simp only [hx0, decide_false, Bool.not_false, if_true]
          rw [w64 (by omega) (by omega), ix_int default (by omega) (by show x - 1 < ((3 : Nat) : Int); omega), Option.bind_some, app_one (by omega) (by omega), Option.bind_some, Option.bind_some]
          exact ⟨_, k - 1, rfl, by omega, i + 1, rfl, by omega, by simp; omega, h5', by rw [← h4]; simp⟩) 7 FU ([], 0) ⟨0, rfl, rfl, by simp, fun j hj => by omega, by simp [fac]⟩ (by decide)
  rw [h1, h2]
theorem reffac_ok (m : A72) (o : A7) : m_ref31_Factors FU m o = some (if (mvl m && oin o) = true then (fac m o, 0) else ([], 1)) := by
  have v := refvalid_ok m
  unfold m_ref31_Factors
  rw [show m_ref31_Valid FU (⟨(⟨(⟨m.e0.e0.fNum, m.e0.e0.fDen⟩ : SRatio), (⟨m.e0.e1.fNum, m.e0.e1.fDen⟩ : SRatio), (⟨m.e0.e2.fNum, m.e0.e2.fDen⟩ : SRatio)⟩ : A3), (⟨(⟨m.e1.e0.fNum, m.e1.e0.fDen⟩ : SRatio), (⟨m.e1.e1.fNum, m.e1.e1.fDen⟩ : SRatio), (⟨m.e1.e2.fNum, m.e1.e2.fDen⟩ : SRatio)⟩ : A3), (⟨(⟨m.e2.e0.fNum, m.e2.e0.fDen⟩ : SRatio), (⟨m.e2.e1.fNum, m.e2.e1.fDen⟩ : SRatio), (⟨m.e2.e2.fNum, m.e2.e2.fDen⟩ : SRatio)⟩ : A3), (⟨(⟨m.e3.e0.fNum, m.e3.e0.fDen⟩ : SRatio), (⟨m.e3.e1.fNum, m.e3.e1.fDen⟩ : SRatio), (⟨m.e3.e2.fNum, m.e3.e2.fDen⟩ : SRatio)⟩ : A3), (⟨(⟨m.e4.e0.fNum, m.e4.e0.fDen⟩ : SRatio), (⟨m.e4.e1.fNum, m.e4.e1.fDen⟩ : SRatio), (⟨m.e4.e2.fNum, m.e4.e2.fDen⟩ : SRatio)⟩ : A3), (⟨(⟨m.e5.e0.fNum, m.e5.e0.fDen⟩ : SRatio), (⟨m.e5.e1.fNum, m.e5.e1.fDen⟩ : SRatio), (⟨m.e5.e2.fNum, m.e5.e2.fDen⟩ : SRatio)⟩ : A3), (⟨(⟨m.e6.e0.fNum, m.e6.e0.fDen⟩ : SRatio), (⟨m.e6.e1.fNum, m.e6.e1.fDen⟩ : SRatio), (⟨m.e6.e2.fNum, m.e6.e2.fDen⟩ : SRatio)⟩ : A3)⟩ : A72) = some (mvl m) from v, reffac_loop]
  simp only [Option.bind_some]
  cases mvl m with
  | false => simp
  | true => cases oin o <;> simp
theorem refweight_ok (m : A72) (o : A7) : m_ref31_Weight FU m o = some (if (mvl m && oin o) = true then (wt (fac m o), 0) else (0, 1)) := by
  unfold m_ref31_Weight
  rw [show m_ref31_Factors FU (⟨(⟨(⟨m.e0.e0.fNum, m.e0.e0.fDen⟩ : SRatio), (⟨m.e0.e1.fNum, m.e0.e1.fDen⟩ : SRatio), (⟨m.e0.e2.fNum, m.e0.e2.fDen⟩ : SRatio)⟩ : A3), (⟨(⟨m.e1.e0.fNum, m.e1.e0.fDen⟩ : SRatio), (⟨m.e1.e1.fNum, m.e1.e1.fDen⟩ : SRatio), (⟨m.e1.e2.fNum, m.e1.e2.fDen⟩ : SRatio)⟩ : A3), (⟨(⟨m.e2.e0.fNum, m.e2.e0.fDen⟩ : SRatio), (⟨m.e2.e1.fNum, m.e2.e1.fDen⟩ : SRatio), (⟨m.e2.e2.fNum, m.e2.e2.fDen⟩ : SRatio)⟩ : A3), (⟨(⟨m.e3.e0.fNum, m.e3.e0.fDen⟩ : SRatio), (⟨m.e3.e1.fNum, m.e3.e1.fDen⟩ : SRatio), (⟨m.e3.e2.fNum, m.e3.e2.fDen⟩ : SRatio)⟩ : A3), (⟨(⟨m.e4.e0.fNum, m.e4.e0.fDen⟩ : SRatio), (⟨m.e4.e1.fNum, m.e4.e1.fDen⟩ : SRatio), (⟨m.e4.e2.fNum, m.e4.e2.fDen⟩ : SRatio)⟩ : A3), (⟨(⟨m.e5.e0.fNum, m.e5.e0.fDen⟩ : SRatio), (⟨m.e5.e1.fNum, m.e5.e1.fDen⟩ : SRatio), (⟨m.e5.e2.fNum, m.e5.e2.fDen⟩ : SRatio)⟩ : A3), (⟨(⟨m.e6.e0.fNum, m.e6.e0.fDen⟩ : SRatio), (⟨m.e6.e1.fNum, m.e6.e1.fDen⟩ : SRatio), (⟨m.e6.e2.fNum, m.e6.e2.fDen⟩ : SRatio)⟩ : A3)⟩ : A72) (⟨o.e0, o.e1, o.e2, o.e3, o.e4, o.e5, o.e6⟩ : A7) = _ from reffac_ok m o, Option.bind_some]
  cases hm : mvl m with
  | false => simp
  | true =>
    cases ho : oin o with
    | false => simp
    | true =>
      have hv := fac_ovl hm ho
      obtain ⟨w, h1, h2⟩ := ref28_Weight (n := FU) hv fu5
      have e : w = wt (fac m o) := isW_uniq (Nat.pow_pos (pd_le hv).1) h2 (wt_ok hv).2.1
      simp [h1, e]

/-! ### the lines -/
end Go.Proofs.YtgcmhhcopeiomaaGreat.Ab
