/- The lines of an explanation, and outcomes, in plain Lean. Conditions: none. -/
import Derived.Test.YtgcmhhcopeiomaaGreatDoorDva
namespace Go.Proofs.YtgcmhhcopeiomaaGreatDoor.Ab
open Go

theorem iter_two {σ τ : Type} {f g : σ → Option (σ ⊕ τ)} (I : Nat → σ → Prop) (Q : τ → Prop) (h : ∀ k s, I k s → (∃ s' k', f s = some (.inl s') ∧ g s = some (.inl s') ∧ k' < k ∧ I k' s') ∨ (∃ t, f s = some (.inr t) ∧ g s = some (.inr t) ∧ Q t)) :
    ∀ (k n : Nat) (s : σ), I k s → k < n → ∃ t, iter n f s = some t ∧ iter n g s = some t ∧ Q t := by
  intro k
  induction k using Nat.strongRecOn with
  | _ k ih =>
    intro n s hI hn
    cases n with
    | zero => omega
    | succ n =>
      rcases h k s hI with ⟨s', k', h1, h1', h2, h3⟩ | ⟨t, h1, h1', h2⟩
      · obtain ⟨t, e, e', q⟩ := ih k' h2 n s' h3 (by omega)
        exact ⟨t, by rw [iter, h1]; exact e, by rw [iter, h1']; exact e', q⟩
      · exact ⟨t, by rw [iter, h1]; rfl, by rw [iter, h1']; rfl, h2⟩
theorem reffac_loop (m : A72) (o : A7) : iter FU (fun s => m_ref31_Factors_L1 FU m o s.1 s.2) ([], (0 : Int)) = some (if oin o = true then .inr (fac m o) else .inl ([], 1)) := by
  obtain ⟨t, h1, h2⟩ := iter_inv (σ := List SRatio × Int) (f := fun s => m_ref31_Factors_L1 FU m o s.1 s.2) (I := fun k s => ∃ i : Nat, s.2 = i ∧ i + k = 7 ∧ s.1.length ≤ i ∧ (∀ j, j < i → 0 ≤ o.l.getD j 0 ∧ o.l.getD j 0 ≤ 3) ∧ s.1 ++ fz (m.l.drop i) (o.l.drop i) = fac m o) (Q := fun t : ((List SRatio) × Int) ⊕ (List SRatio) => t = if oin o = true then .inr (fac m o) else .inl ([], 1)) (by
    rintro k ⟨l, c⟩ ⟨i, h1, h2, h3, h5, h4⟩
    dsimp only at h1 h3 h4
    subst h1
    simp only [m_ref31_Factors_L1]
    by_cases hk : k = 0
    · right
      have e0 : i = 7 := by omega
      subst e0
      refine ⟨.inr l, by simp, ?_⟩
      rw [List.drop_eq_nil_of_le (by simp [A72.l]), List.drop_eq_nil_of_le (by simp [A7.l])] at h4
      have ho : oin o = true := oin_iff.2 fun x hx => by
        obtain ⟨j, hj, rfl⟩ := List.getElem_of_mem hx
        have := h5 j (by simpa [A7.l] using hj)
        simpa [hj] using this
      rw [if_pos ho]
      simpa [fz] using h4
    · have hi : i < 7 := by omega
      have ho : i < o.l.length := by simpa [A7.l] using hi
      have hm : i < m.l.length := by simpa [A72.l] using hi
      rw [if_pos (by simp; omega), ix_get 0 ho, Option.bind_some, ix_get default hm, Option.bind_some, wadd1 hi (by decide)]
      rw [fz_drop hm ho] at h4
      obtain ⟨x, hx⟩ : ∃ x, o.l.getD i 0 = x := ⟨_, rfl⟩
      have hmem : x ∈ o.l := by rw [← hx]; simp [ho]
      rw [hx] at h4 ⊢
      by_cases hb : x < 0 ∨ 3 < x
      · right
        have hno : oin o = false := by
          cases hq : oin o with
          | false => rfl
          | true => have := oin_iff.1 hq x hmem; omega
        refine ⟨.inl ([], 1), ?_, by rw [hno]; simp⟩
        rcases hb with hb | hb
        · simp [hb]
        · simp [show ¬ x < 0 by omega, hb]
      · left
        have b1 : ¬ x < 0 := by omega
        have b2 : ¬ 3 < x := by omega
        have h5' : ∀ j, j < i + 1 → 0 ≤ o.l.getD j 0 ∧ o.l.getD j 0 ≤ 3 := fun j hj => by
          by_cases hji : j = i
          · subst hji; rw [hx]; omega
          · exact h5 j (by omega)
        simp only [b1, b2, decide_false, Bool.not_false, if_true, Option.bind_some, Bool.or_self, Bool.false_eq_true, if_false]
        by_cases hx0 : x = 0
        · subst hx0
          simp only [if_pos, List.nil_append] at h4
          exact ⟨(l, ((i + 1 : Nat) : Int)), k - 1, by simp, by omega, i + 1, rfl, by omega, by show l.length ≤ i + 1; omega, h5', h4⟩
        · simp only [if_neg hx0] at h4
          simp only [hx0, decide_false, Bool.not_false, if_true]
          rw [w64 (by omega) (by omega), ix_int default (by omega) (by show x - 1 < ((3 : Nat) : Int); omega), Option.bind_some, app_one (by omega) (by omega), Option.bind_some, Option.bind_some]
          exact ⟨_, k - 1, rfl, by omega, i + 1, rfl, by omega, by simp; omega, h5', by rw [← h4]; simp⟩) 7 FU ([], 0) ⟨0, rfl, rfl, by simp, fun j hj => by omega, by simp [fac]⟩ (by decide)
  rw [h1, h2]
theorem reffac_ok (m : A72) (o : A7) : m_ref31_Factors FU m o = some (if (mvl m && oin o) = true then (fac m o, 0) else ([], 1)) := by
  have v := refvalid_ok m
  unfold m_ref31_Factors
  rw [show m_ref31_Valid FU (⟨(⟨(⟨m.e0.e0.fNum, m.e0.e0.fDen⟩ : SRatio), (⟨m.e0.e1.fNum, m.e0.e1.fDen⟩ : SRatio), (⟨m.e0.e2.fNum, m.e0.e2.fDen⟩ : SRatio)⟩ : A3), (⟨(⟨m.e1.e0.fNum, m.e1.e0.fDen⟩ : SRatio), (⟨m.e1.e1.fNum, m.e1.e1.fDen⟩ : SRatio), (⟨m.e1.e2.fNum, m.e1.e2.fDen⟩ : SRatio)⟩ : A3), (⟨(⟨m.e2.e0.fNum, m.e2.e0.fDen⟩ : SRatio), (⟨m.e2.e1.fNum, m.e2.e1.fDen⟩ : SRatio), (⟨m.e2.e2.fNum, m.e2.e2.fDen⟩ : SRatio)⟩ : A3), (⟨(⟨m.e3.e0.fNum, m.e3.e0.fDen⟩ : SRatio), (⟨m.e3.e1.fNum, m.e3.e1.fDen⟩ : SRatio), (⟨m.e3.e2.fNum, m.e3.e2.fDen⟩ : SRatio)⟩ : A3), (⟨(⟨m.e4.e0.fNum, m.e4.e0.fDen⟩ : SRatio), (⟨m.e4.e1.fNum, m.e4.e1.fDen⟩ : SRatio), (⟨m.e4.e2.fNum, m.e4.e2.fDen⟩ : SRatio)⟩ : A3), (⟨(⟨m.e5.e0.fNum, m.e5.e0.fDen⟩ : SRatio), (⟨m.e5.e1.fNum, m.e5.e1.fDen⟩ : SRatio), (⟨m.e5.e2.fNum, m.e5.e2.fDen⟩ : SRatio)⟩ : A3), (⟨(⟨m.e6.e0.fNum, m.e6.e0.fDen⟩ : SRatio), (⟨m.e6.e1.fNum, m.e6.e1.fDen⟩ : SRatio), (⟨m.e6.e2.fNum, m.e6.e2.fDen⟩ : SRatio)⟩ : A3)⟩ : A72) = some (mvl m) from v, reffac_loop]
  simp only [Option.bind_some]
  cases mvl m with
  | false => simp
  | true => cases oin o <;> simp
theorem refweight_ok (m : A72) (o : A7) : m_ref31_Weight FU m o = some (if (mvl m && oin o) = true then (wt (fac m o), 0) else (0, 1)) := by
  unfold m_ref31_Weight
  rw [show m_ref31_Factors FU (⟨(⟨(⟨m.e0.e0.fNum, m.e0.e0.fDen⟩ : SRatio), (⟨m.e0.e1.fNum, m.e0.e1.fDen⟩ : SRatio), (⟨m.e0.e2.fNum, m.e0.e2.fDen⟩ : SRatio)⟩ : A3), (⟨(⟨m.e1.e0.fNum, m.e1.e0.fDen⟩ : SRatio), (⟨m.e1.e1.fNum, m.e1.e1.fDen⟩ : SRatio), (⟨m.e1.e2.fNum, m.e1.e2.fDen⟩ : SRatio)⟩ : A3), (⟨(⟨m.e2.e0.fNum, m.e2.e0.fDen⟩ : SRatio), (⟨m.e2.e1.fNum, m.e2.e1.fDen⟩ : SRatio), (⟨m.e2.e2.fNum, m.e2.e2.fDen⟩ : SRatio)⟩ : A3), (⟨(⟨m.e3.e0.fNum, m.e3.e0.fDen⟩ : SRatio), (⟨m.e3.e1.fNum, m.e3.e1.fDen⟩ : SRatio), (⟨m.e3.e2.fNum, m.e3.e2.fDen⟩ : SRatio)⟩ : A3), (⟨(⟨m.e4.e0.fNum, m.e4.e0.fDen⟩ : SRatio), (⟨m.e4.e1.fNum, m.e4.e1.fDen⟩ : SRatio), (⟨m.e4.e2.fNum, m.e4.e2.fDen⟩ : SRatio)⟩ : A3), (⟨(⟨m.e5.e0.fNum, m.e5.e0.fDen⟩ : SRatio), (⟨m.e5.e1.fNum, m.e5.e1.fDen⟩ : SRatio), (⟨m.e5.e2.fNum, m.e5.e2.fDen⟩ : SRatio)⟩ : A3), (⟨(⟨m.e6.e0.fNum, m.e6.e0.fDen⟩ : SRatio), (⟨m.e6.e1.fNum, m.e6.e1.fDen⟩ : SRatio), (⟨m.e6.e2.fNum, m.e6.e2.fDen⟩ : SRatio)⟩ : A3)⟩ : A72) (⟨o.e0, o.e1, o.e2, o.e3, o.e4, o.e5, o.e6⟩ : A7) = _ from reffac_ok m o, Option.bind_some]
  cases hm : mvl m with
  | false => simp
  | true =>
    cases ho : oin o with
    | false => simp
    | true =>
      have hv := fac_ovl hm ho
      obtain ⟨w, h1, h2⟩ := ref28_Weight (n := FU) hv fu5
      have e : w = wt (fac m o) := isW_uniq (Nat.pow_pos (pd_le hv).1) h2 (wt_ok hv).2.1
      simp [h1, e]

/-! ### the lines -/
theorem appS_some {a b : List UInt8} (h : a.length + b.length ≤ 1000) : appS a b = some (a ++ b) := by
  unfold appS; rw [if_pos (by omega)]
theorem decimals : ∀ x : Nat, x < 1001 → m_ref31_decimal FU (x : Int) = some (Lib.itoa (x : Int)) ∧ (Lib.itoa (x : Int)).length ≤ 4 := by decide +kernel
def NM : List (List UInt8) := [[116, 105, 116, 108, 101], [97, 117, 116, 104, 111, 114], [121, 101, 97, 114], [105, 115, 98, 110], [108, 97, 110, 103, 117, 97, 103, 101], [112, 117, 98, 108, 105, 115, 104, 101, 114], [101, 100, 105, 116, 105, 111, 110]]
def VB : List (List UInt8) := [[], [97, 103, 114, 101, 101, 115], [110, 101, 97, 114], [100, 105, 102, 102, 101, 114, 115]]
def VR : List (List UInt8) := [[], [32, 97, 103, 114, 101, 101, 115, 32], [32, 110, 101, 97, 114, 32], [32, 100, 105, 102, 102, 101, 114, 115, 32]]
theorem nm_len : ∀ i : Nat, i < 7 → (NM.getD i []).length ≤ 9 := by decide
theorem vb_facts : ∀ v : Nat, v < 4 → 0 < v → (VB.getD v []).length ≤ 7 ∧ (VR.getD v []).length ≤ 9 ∧ [32] ++ VB.getD v [] ++ [32] = VR.getD v [] := by decide
theorem getD_mem {α : Type} {l : List α} {k : Nat} {d : α} (h : k < l.length) : l.getD k d ∈ l := by simp [h]
theorem explain_loop {m : A72} {o : A7} (hm : mvl m = true) (ho : oin o = true) : ∃ t, iter FU (fun s => m_match_Explain_L1 FU m o s.1 s.2) ([], (0 : Int)) = some t ∧ iter FU (fun s => m_ref31_Explain_L1 FU m o s.1 s.2) ([], (0 : Int)) = some t ∧ t.length ≤ 7 := by
  refine iter_two (σ := List (List UInt8) × Int) (I := fun k s => ∃ i : Nat, s.2 = i ∧ i + k = 7 ∧ s.1.length ≤ i) (Q := fun t : List (List UInt8) => t.length ≤ 7) ?_ 7 FU _ ⟨0, rfl, rfl, by simp⟩ (by decide)
  rintro k ⟨l, c⟩ ⟨i, h1, h2, h3⟩
  dsimp only at h1 h3
  subst h1
  by_cases hk : k = 0
  · right
    have e0 : i = 7 := by omega
    subst e0
    exact ⟨l, by simp [m_match_Explain_L1], by simp [m_ref31_Explain_L1], by omega⟩
  · left
    have hi : i < 7 := by omega
    have hol : i < o.l.length := by simpa [A7.l] using hi
    have hml : i < m.l.length := by simpa [A72.l] using hi
    have hx := oin_iff.1 ho (o.l.getD i 0) (by simp [hol])
    have hr : ovl (m.l.getD i default).l = true := List.all_eq_true.1 hm _ (by simp [hml])
    simp only [m_match_Explain_L1, m_ref31_Explain_L1]
    rw [if_pos (by simp; omega), if_pos (by simp; omega), show ix (⟨o.e0, o.e1, o.e2, o.e3, o.e4, o.e5, o.e6⟩ : A7).l (i : Int) = some (o.l.getD i 0) from ix_get 0 hol, ix_get default hml, wadd1 hi (by decide)]
    simp only [Option.bind_some]
    obtain ⟨x, hxx⟩ : ∃ x, o.l.getD i 0 = x := ⟨_, rfl⟩
    rw [hxx] at hx ⊢
    by_cases hx0 : x = 0
    · subst hx0
      exact ⟨(l, ((i + 1 : Nat) : Int)), k - 1, by simp, by simp, by omega, i + 1, rfl, by omega, by show l.length ≤ i + 1; omega⟩
    · simp only [hx0, decide_false, Bool.not_false, if_true]
      have hk3 : (x - 1).toNat < 3 := by omega
      have hq := rok_def hr ((m.l.getD i default).l.getD (x - 1).toNat default) (getD_mem hk3)
      rw [rok_iff] at hq
      rw [w64 (by omega) (by omega), ix_int default (by omega) (by show x - 1 < ((3 : Nat) : Int); omega)]
      generalize (m.l.getD i default).l.getD (x - 1).toNat default = r at hq ⊢
      obtain ⟨p, hp⟩ := Int.eq_ofNat_of_zero_le (show 0 ≤ r.fNum by omega)
      obtain ⟨q, hq2⟩ := Int.eq_ofNat_of_zero_le (show 0 ≤ r.fDen by omega)
      obtain ⟨y, hy⟩ := Int.eq_ofNat_of_zero_le hx.1
      have d1 := decimals p (by omega)
      have d2 := decimals q (by omega)
      have n1 := nm_len i hi
      have v1 := vb_facts y (by omega) (by omega)
      have i1 : itoaM r.fNum = some (Lib.itoa (p : Int)) := by unfold itoaM; rw [if_pos (by omega), hp]
      have i2 : itoaM r.fDen = some (Lib.itoa (q : Int)) := by unfold itoaM; rw [if_pos (by omega), hq2]
      have a1 : ix (⟨([116, 105, 116, 108, 101] : List UInt8), ([97, 117, 116, 104, 111, 114] : List UInt8), ([121, 101, 97, 114] : List UInt8), ([105, 115, 98, 110] : List UInt8), ([108, 97, 110, 103, 117, 97, 103, 101] : List UInt8), ([112, 117, 98, 108, 105, 115, 104, 101, 114] : List UInt8), ([101, 100, 105, 116, 105, 111, 110] : List UInt8)⟩ : A74).l (i : Int) = some (NM.getD i []) := ix_get (l := NM) [] hi
      have a2 : m_ref31_name FU (i : Int) = some (NM.getD i []) := by
        show (ix NM (i : Int)).bind (fun v2 => some v2) = _
        rw [ix_get (l := NM) [] hi]; rfl
      have a3 : ix (⟨([] : List UInt8), ([97, 103, 114, 101, 101, 115] : List UInt8), ([110, 101, 97, 114] : List UInt8), ([100, 105, 102, 102, 101, 114, 115] : List UInt8)⟩ : A4).l x = some (VB.getD y []) := by rw [hy]; exact ix_get (l := VB) [] (show y < 4 by omega)
      have a4 : m_ref31_verb FU x = some (VR.getD y []) := by
        show (ix VR x).bind (fun v2 => some v2) = _
        rw [hy, ix_get (l := VR) [] (show y < 4 by omega)]; rfl
      rw [a1, a2, a3, a4]
      simp only [Option.bind_some]
      rw [i1, i2, hp, hq2, d1.1, d2.1]
      simp only [Option.bind_some]
      generalize NM.getD i [] = nm at *
      generalize VB.getD y [] = vb at *
      generalize VR.getD y [] = vr at *
      generalize Lib.itoa (p : Int) = tp at *
      generalize Lib.itoa (q : Int) = tq at *
      have d1' := d1.2
      have d2' := d2.2
      have v1' := v1.1
      have v1'' := v1.2.1
      simp (disch := ((try simp only [List.length_append, List.length_cons, List.length_nil]); omega)) only [appS_some, Option.bind_some]
      rw [app_one (by omega) (by omega), app_one (by omega) (by omega)]
      have e : nm ++ [32] ++ vb ++ [32] ++ tp ++ [47] ++ tq = nm ++ vr ++ tp ++ [47] ++ tq := by
        rw [← v1.2.2]; simp
      rw [e]
      exact ⟨_, k - 1, rfl, rfl, by omega, i + 1, rfl, by omega, by simp; omega⟩
theorem sametexts {l : List (List UInt8)} (hl : l.length ≤ 7) : m_ref29_SameTexts FU l l = some true := by
  unfold m_ref29_SameTexts
  rw [if_neg (by simp), iter_any (ρ := Bool ⊕ Unit) l.length FU (fun _ => false) (.inl false) (.inr ()) (fun j hj => by
    unfold m_ref29_SameTexts_L1
    rw [if_pos (by simp; omega), ix_get [] hj, Option.bind_some, Option.bind_some, wadd1 hj (by simp only [ML]; omega)]
    simp) (by unfold m_ref29_SameTexts_L1; simp) (by simp only [FU]; omega)]
  simp [anyN]
theorem outcomes_loop {l : List SRatio} {a b : Int} (hl : l.length ≤ 7) : iter FU (fun s => m_law31_MatchOutcomes_L1 FU (l, a) (l, b) s) (0 : Int) = some (.inr ()) := by
  rw [iter_any (ρ := Bool ⊕ Unit) l.length FU (fun _ => false) (.inl false) (.inr ()) (fun j hj => by
    unfold m_law31_MatchOutcomes_L1
    rw [if_pos (by simp; omega), ix_get default hj, Option.bind_some, Option.bind_some, wadd1 hj (by simp only [ML]; omega)]
    simp) (by unfold m_law31_MatchOutcomes_L1; simp) (by simp only [FU]; omega)]
  simp [anyN]
theorem explains (m : A72) (o : A7) : ∃ t e, m_match_Explain FU m o = some (t, e) ∧ m_ref31_Explain FU m o = some (t, e) ∧ t.length ≤ 7 := by
  unfold m_match_Explain m_ref31_Explain
  rw [show m_match_Factors FU (⟨(⟨(⟨m.e0.e0.fNum, m.e0.e0.fDen⟩ : SRatio), (⟨m.e0.e1.fNum, m.e0.e1.fDen⟩ : SRatio), (⟨m.e0.e2.fNum, m.e0.e2.fDen⟩ : SRatio)⟩ : A3), (⟨(⟨m.e1.e0.fNum, m.e1.e0.fDen⟩ : SRatio), (⟨m.e1.e1.fNum, m.e1.e1.fDen⟩ : SRatio), (⟨m.e1.e2.fNum, m.e1.e2.fDen⟩ : SRatio)⟩ : A3), (⟨(⟨m.e2.e0.fNum, m.e2.e0.fDen⟩ : SRatio), (⟨m.e2.e1.fNum, m.e2.e1.fDen⟩ : SRatio), (⟨m.e2.e2.fNum, m.e2.e2.fDen⟩ : SRatio)⟩ : A3), (⟨(⟨m.e3.e0.fNum, m.e3.e0.fDen⟩ : SRatio), (⟨m.e3.e1.fNum, m.e3.e1.fDen⟩ : SRatio), (⟨m.e3.e2.fNum, m.e3.e2.fDen⟩ : SRatio)⟩ : A3), (⟨(⟨m.e4.e0.fNum, m.e4.e0.fDen⟩ : SRatio), (⟨m.e4.e1.fNum, m.e4.e1.fDen⟩ : SRatio), (⟨m.e4.e2.fNum, m.e4.e2.fDen⟩ : SRatio)⟩ : A3), (⟨(⟨m.e5.e0.fNum, m.e5.e0.fDen⟩ : SRatio), (⟨m.e5.e1.fNum, m.e5.e1.fDen⟩ : SRatio), (⟨m.e5.e2.fNum, m.e5.e2.fDen⟩ : SRatio)⟩ : A3), (⟨(⟨m.e6.e0.fNum, m.e6.e0.fDen⟩ : SRatio), (⟨m.e6.e1.fNum, m.e6.e1.fDen⟩ : SRatio), (⟨m.e6.e2.fNum, m.e6.e2.fDen⟩ : SRatio)⟩ : A3)⟩ : A72) (⟨o.e0, o.e1, o.e2, o.e3, o.e4, o.e5, o.e6⟩ : A7) = _ from factors_ok m o, show m_ref31_Factors FU (⟨(⟨(⟨m.e0.e0.fNum, m.e0.e0.fDen⟩ : SRatio), (⟨m.e0.e1.fNum, m.e0.e1.fDen⟩ : SRatio), (⟨m.e0.e2.fNum, m.e0.e2.fDen⟩ : SRatio)⟩ : A3), (⟨(⟨m.e1.e0.fNum, m.e1.e0.fDen⟩ : SRatio), (⟨m.e1.e1.fNum, m.e1.e1.fDen⟩ : SRatio), (⟨m.e1.e2.fNum, m.e1.e2.fDen⟩ : SRatio)⟩ : A3), (⟨(⟨m.e2.e0.fNum, m.e2.e0.fDen⟩ : SRatio), (⟨m.e2.e1.fNum, m.e2.e1.fDen⟩ : SRatio), (⟨m.e2.e2.fNum, m.e2.e2.fDen⟩ : SRatio)⟩ : A3), (⟨(⟨m.e3.e0.fNum, m.e3.e0.fDen⟩ : SRatio), (⟨m.e3.e1.fNum, m.e3.e1.fDen⟩ : SRatio), (⟨m.e3.e2.fNum, m.e3.e2.fDen⟩ : SRatio)⟩ : A3), (⟨(⟨m.e4.e0.fNum, m.e4.e0.fDen⟩ : SRatio), (⟨m.e4.e1.fNum, m.e4.e1.fDen⟩ : SRatio), (⟨m.e4.e2.fNum, m.e4.e2.fDen⟩ : SRatio)⟩ : A3), (⟨(⟨m.e5.e0.fNum, m.e5.e0.fDen⟩ : SRatio), (⟨m.e5.e1.fNum, m.e5.e1.fDen⟩ : SRatio), (⟨m.e5.e2.fNum, m.e5.e2.fDen⟩ : SRatio)⟩ : A3), (⟨(⟨m.e6.e0.fNum, m.e6.e0.fDen⟩ : SRatio), (⟨m.e6.e1.fNum, m.e6.e1.fDen⟩ : SRatio), (⟨m.e6.e2.fNum, m.e6.e2.fDen⟩ : SRatio)⟩ : A3)⟩ : A72) (⟨o.e0, o.e1, o.e2, o.e3, o.e4, o.e5, o.e6⟩ : A7) = _ from reffac_ok m o]
  cases hm : mvl m with
  | false => exact ⟨[], 1, by simp, by simp, by simp⟩
  | true =>
    cases ho : oin o with
    | false => exact ⟨[], 1, by simp, by simp, by simp⟩
    | true =>
      obtain ⟨t, h1, h2, h3⟩ := explain_loop hm ho
      exact ⟨t, 0, by simp [h1], by simp [h2], h3⟩
theorem plain_MatchOutcomes (m : A72) (o : A7) : m_law31_MatchOutcomes FU m o = some true := by
  have f1 := factors_ok m o
  have f2 := reffac_ok m o
  have w1 := weight_ok m o
  have w2 := refweight_ok m o
  obtain ⟨t, e, x1, x2, x3⟩ := explains m o
  unfold m_law31_MatchOutcomes
  rw [awake31, Option.bind_some, if_neg (by decide), show m_law31_Own FU (⟨(⟨(⟨m.e0.e0.fNum, m.e0.e0.fDen⟩ : SRatio), (⟨m.e0.e1.fNum, m.e0.e1.fDen⟩ : SRatio), (⟨m.e0.e2.fNum, m.e0.e2.fDen⟩ : SRatio)⟩ : A3), (⟨(⟨m.e1.e0.fNum, m.e1.e0.fDen⟩ : SRatio), (⟨m.e1.e1.fNum, m.e1.e1.fDen⟩ : SRatio), (⟨m.e1.e2.fNum, m.e1.e2.fDen⟩ : SRatio)⟩ : A3), (⟨(⟨m.e2.e0.fNum, m.e2.e0.fDen⟩ : SRatio), (⟨m.e2.e1.fNum, m.e2.e1.fDen⟩ : SRatio), (⟨m.e2.e2.fNum, m.e2.e2.fDen⟩ : SRatio)⟩ : A3), (⟨(⟨m.e3.e0.fNum, m.e3.e0.fDen⟩ : SRatio), (⟨m.e3.e1.fNum, m.e3.e1.fDen⟩ : SRatio), (⟨m.e3.e2.fNum, m.e3.e2.fDen⟩ : SRatio)⟩ : A3), (⟨(⟨m.e4.e0.fNum, m.e4.e0.fDen⟩ : SRatio), (⟨m.e4.e1.fNum, m.e4.e1.fDen⟩ : SRatio), (⟨m.e4.e2.fNum, m.e4.e2.fDen⟩ : SRatio)⟩ : A3), (⟨(⟨m.e5.e0.fNum, m.e5.e0.fDen⟩ : SRatio), (⟨m.e5.e1.fNum, m.e5.e1.fDen⟩ : SRatio), (⟨m.e5.e2.fNum, m.e5.e2.fDen⟩ : SRatio)⟩ : A3), (⟨(⟨m.e6.e0.fNum, m.e6.e0.fDen⟩ : SRatio), (⟨m.e6.e1.fNum, m.e6.e1.fDen⟩ : SRatio), (⟨m.e6.e2.fNum, m.e6.e2.fDen⟩ : SRatio)⟩ : A3)⟩ : A72) = some m from own_ok m, Option.bind_some,
    show m_match_Factors FU m (⟨o.e0, o.e1, o.e2, o.e3, o.e4, o.e5, o.e6⟩ : A7) = _ from f1, Option.bind_some, show m_ref31_Factors FU (⟨(⟨(⟨m.e0.e0.fNum, m.e0.e0.fDen⟩ : SRatio), (⟨m.e0.e1.fNum, m.e0.e1.fDen⟩ : SRatio), (⟨m.e0.e2.fNum, m.e0.e2.fDen⟩ : SRatio)⟩ : A3), (⟨(⟨m.e1.e0.fNum, m.e1.e0.fDen⟩ : SRatio), (⟨m.e1.e1.fNum, m.e1.e1.fDen⟩ : SRatio), (⟨m.e1.e2.fNum, m.e1.e2.fDen⟩ : SRatio)⟩ : A3), (⟨(⟨m.e2.e0.fNum, m.e2.e0.fDen⟩ : SRatio), (⟨m.e2.e1.fNum, m.e2.e1.fDen⟩ : SRatio), (⟨m.e2.e2.fNum, m.e2.e2.fDen⟩ : SRatio)⟩ : A3), (⟨(⟨m.e3.e0.fNum, m.e3.e0.fDen⟩ : SRatio), (⟨m.e3.e1.fNum, m.e3.e1.fDen⟩ : SRatio), (⟨m.e3.e2.fNum, m.e3.e2.fDen⟩ : SRatio)⟩ : A3), (⟨(⟨m.e4.e0.fNum, m.e4.e0.fDen⟩ : SRatio), (⟨m.e4.e1.fNum, m.e4.e1.fDen⟩ : SRatio), (⟨m.e4.e2.fNum, m.e4.e2.fDen⟩ : SRatio)⟩ : A3), (⟨(⟨m.e5.e0.fNum, m.e5.e0.fDen⟩ : SRatio), (⟨m.e5.e1.fNum, m.e5.e1.fDen⟩ : SRatio), (⟨m.e5.e2.fNum, m.e5.e2.fDen⟩ : SRatio)⟩ : A3), (⟨(⟨m.e6.e0.fNum, m.e6.e0.fDen⟩ : SRatio), (⟨m.e6.e1.fNum, m.e6.e1.fDen⟩ : SRatio), (⟨m.e6.e2.fNum, m.e6.e2.fDen⟩ : SRatio)⟩ : A3)⟩ : A72) (⟨o.e0, o.e1, o.e2, o.e3, o.e4, o.e5, o.e6⟩ : A7) = _ from f2, Option.bind_some, Option.bind_some,
    show m_match_Weight FU m (⟨o.e0, o.e1, o.e2, o.e3, o.e4, o.e5, o.e6⟩ : A7) = _ from w1, Option.bind_some, show m_ref31_Weight FU (⟨(⟨(⟨m.e0.e0.fNum, m.e0.e0.fDen⟩ : SRatio), (⟨m.e0.e1.fNum, m.e0.e1.fDen⟩ : SRatio), (⟨m.e0.e2.fNum, m.e0.e2.fDen⟩ : SRatio)⟩ : A3), (⟨(⟨m.e1.e0.fNum, m.e1.e0.fDen⟩ : SRatio), (⟨m.e1.e1.fNum, m.e1.e1.fDen⟩ : SRatio), (⟨m.e1.e2.fNum, m.e1.e2.fDen⟩ : SRatio)⟩ : A3), (⟨(⟨m.e2.e0.fNum, m.e2.e0.fDen⟩ : SRatio), (⟨m.e2.e1.fNum, m.e2.e1.fDen⟩ : SRatio), (⟨m.e2.e2.fNum, m.e2.e2.fDen⟩ : SRatio)⟩ : A3), (⟨(⟨m.e3.e0.fNum, m.e3.e0.fDen⟩ : SRatio), (⟨m.e3.e1.fNum, m.e3.e1.fDen⟩ : SRatio), (⟨m.e3.e2.fNum, m.e3.e2.fDen⟩ : SRatio)⟩ : A3), (⟨(⟨m.e4.e0.fNum, m.e4.e0.fDen⟩ : SRatio), (⟨m.e4.e1.fNum, m.e4.e1.fDen⟩ : SRatio), (⟨m.e4.e2.fNum, m.e4.e2.fDen⟩ : SRatio)⟩ : A3), (⟨(⟨m.e5.e0.fNum, m.e5.e0.fDen⟩ : SRatio), (⟨m.e5.e1.fNum, m.e5.e1.fDen⟩ : SRatio), (⟨m.e5.e2.fNum, m.e5.e2.fDen⟩ : SRatio)⟩ : A3), (⟨(⟨m.e6.e0.fNum, m.e6.e0.fDen⟩ : SRatio), (⟨m.e6.e1.fNum, m.e6.e1.fDen⟩ : SRatio), (⟨m.e6.e2.fNum, m.e6.e2.fDen⟩ : SRatio)⟩ : A3)⟩ : A72) (⟨o.e0, o.e1, o.e2, o.e3, o.e4, o.e5, o.e6⟩ : A7) = _ from w2, Option.bind_some, Option.bind_some,
    show m_match_Explain FU m (⟨o.e0, o.e1, o.e2, o.e3, o.e4, o.e5, o.e6⟩ : A7) = _ from x1, Option.bind_some, show m_ref31_Explain FU (⟨(⟨(⟨m.e0.e0.fNum, m.e0.e0.fDen⟩ : SRatio), (⟨m.e0.e1.fNum, m.e0.e1.fDen⟩ : SRatio), (⟨m.e0.e2.fNum, m.e0.e2.fDen⟩ : SRatio)⟩ : A3), (⟨(⟨m.e1.e0.fNum, m.e1.e0.fDen⟩ : SRatio), (⟨m.e1.e1.fNum, m.e1.e1.fDen⟩ : SRatio), (⟨m.e1.e2.fNum, m.e1.e2.fDen⟩ : SRatio)⟩ : A3), (⟨(⟨m.e2.e0.fNum, m.e2.e0.fDen⟩ : SRatio), (⟨m.e2.e1.fNum, m.e2.e1.fDen⟩ : SRatio), (⟨m.e2.e2.fNum, m.e2.e2.fDen⟩ : SRatio)⟩ : A3), (⟨(⟨m.e3.e0.fNum, m.e3.e0.fDen⟩ : SRatio), (⟨m.e3.e1.fNum, m.e3.e1.fDen⟩ : SRatio), (⟨m.e3.e2.fNum, m.e3.e2.fDen⟩ : SRatio)⟩ : A3), (⟨(⟨m.e4.e0.fNum, m.e4.e0.fDen⟩ : SRatio), (⟨m.e4.e1.fNum, m.e4.e1.fDen⟩ : SRatio), (⟨m.e4.e2.fNum, m.e4.e2.fDen⟩ : SRatio)⟩ : A3), (⟨(⟨m.e5.e0.fNum, m.e5.e0.fDen⟩ : SRatio), (⟨m.e5.e1.fNum, m.e5.e1.fDen⟩ : SRatio), (⟨m.e5.e2.fNum, m.e5.e2.fDen⟩ : SRatio)⟩ : A3), (⟨(⟨m.e6.e0.fNum, m.e6.e0.fDen⟩ : SRatio), (⟨m.e6.e1.fNum, m.e6.e1.fDen⟩ : SRatio), (⟨m.e6.e2.fNum, m.e6.e2.fDen⟩ : SRatio)⟩ : A3)⟩ : A72) (⟨o.e0, o.e1, o.e2, o.e3, o.e4, o.e5, o.e6⟩ : A7) = _ from x2, Option.bind_some]
  simp only [decide_true, Bool.not_true, Bool.or_self, Bool.not_false, if_true, sametexts x3, Option.bind_some, Bool.false_eq_true, if_false]
  have hl : (if (mvl m && oin o) = true then (fac m o, (0 : Int)) else ([], 1)).1.length ≤ 7 := by
    split
    · exact fac_len m o
    · simp
  generalize (if (mvl m && oin o) = true then (fac m o, (0 : Int)) else ([], 1)) = p at hl ⊢
  obtain ⟨l, q⟩ := p
  rw [outcomes_loop hl]; rfl
end Go.Proofs.YtgcmhhcopeiomaaGreatDoor.Ab
