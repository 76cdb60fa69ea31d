/- Symmetry, and features left out, in plain Lean. Conditions: none. -/
import Derived.Test.YtgcmhhcopeiomaaVg
namespace Go.Proofs.Ytgcmhhcopeiomaa.Ab
open Go

theorem cmp_comm {f g : SFeatures} (hf : fv f = true) (hg : fv g = true) : cmp f g = cmp g f := by
  have F := fv_small hf
  have G := fv_small hg
  have e : ∀ {α : Type} [DecidableEq α] (a b : α), decide (a = b) = decide (b = a) := fun a b => by rw [decide_eq_decide]; exact ⟨Eq.symm, Eq.symm⟩
  have c : ∀ (p q : Prop) [Decidable p] [Decidable q] (x : Int), (if p ∧ q then x else 0) = if q ∧ p then x else 0 := by
    intro p q _ _ x; by_cases hp : p <;> by_cases hq : q <;> simp [hp, hq]
  simp only [cmp, A7.mk.injEq]
  refine ⟨?_, ?_, ?_, ?_, ?_, ?_, ?_⟩
  · unfold cT; rw [cw_comm (a := f.fTitle) (b := g.fTitle) (by have := F.t; omega) (by have := G.t; omega), nr_comm (jn f.fTitle), e f.fTitle]; exact c _ _ _
  · unfold cA; rw [nr_comm f.fAuthor, e f.fAuthor]; exact c _ _ _
  · unfold cY; rw [nbr_comm F.yr G.yr, com_comm f.fYears]; exact c _ _ _
  · unfold cS; rw [com_comm f.fIsbns]; exact c _ _ _
  · unfold cS; rw [com_comm f.fLangs]; exact c _ _ _
  · unfold cP; rw [com_comm f.fPublisher, e f.fPublisher]; exact c _ _ _
  · unfold cE; rw [e f.fEdition]; exact c _ _ _
theorem cmp_oin (f g : SFeatures) : oin (cmp f g) = true := by
  have z : ∀ (c : Prop) [Decidable c] (a b : Bool), 0 ≤ (if c then ver a b else 0) ∧ (if c then ver a b else 0) ≤ 3 := by
    intro c _ a b
    have := ver_range a b
    split <;> omega
  refine oin_iff.2 fun x hx => ?_
  simp only [cmp, A7.l, List.mem_cons, List.not_mem_nil, or_false] at hx
  rcases hx with rfl | rfl | rfl | rfl | rfl | rfl | rfl
  · exact z _ _ _
  · exact z _ _ _
  · exact z _ _ _
  · exact z _ _ _
  · exact z _ _ _
  · exact z _ _ _
  · exact z _ _ _
theorem cmp_self (f : SFeatures) : ∀ x ∈ (cmp f f).l, x = 0 ∨ x = 1 := by
  intro x hx
  simp only [cmp, A7.l, List.mem_cons, List.not_mem_nil, or_false] at hx
  rcases hx with rfl | rfl | rfl | rfl | rfl | rfl | rfl
  · unfold cT; split <;> simp [ver_one]
  · unfold cA; split <;> simp [ver_one]
  · unfold cY; split
    · rename_i h; rw [com_self h.1]; simp [ver_one]
    · simp
  · unfold cS; split
    · rename_i h; rw [com_self h.1]; simp [ver_one]
    · simp
  · unfold cS; split
    · rename_i h; rw [com_self h.1]; simp [ver_one]
    · simp
  · unfold cP; split <;> simp [ver_one]
  · unfold cE; split <;> simp [ver_one]
theorem ix7 (o : A7) {i : Nat} (h : i < 7) : ix o.l (i : Int) = some (o.l.getD i 0) := ix_get 0 (by simpa [A7.l] using h)
theorem and255 (v : Int) : 0 ≤ bitM .i64 (· &&& ·) v 255 := by
  unfold bitM
  have h : ((BitVec.ofInt IntKind.i64.bits v) &&& (BitVec.ofInt IntKind.i64.bits 255)).toNat ≤ 255 := by
    rw [BitVec.toNat_and]
    exact Nat.le_trans Nat.and_le_right (by decide)
  generalize ((BitVec.ofInt IntKind.i64.bits v) &&& (BitVec.ofInt IntKind.i64.bits 255)).toNat = k at h ⊢
  rw [w64 (by omega) (by omega)]; omega
/-- What a worse outcome has. -/
def worse (s u : Int) : Prop := (s = 0 ∧ u = 0) ∨ (s = 1 ∧ 1 ≤ u ∧ u ≤ 3)
theorem sym_L1 {o a : A7} {e : Int} (hs : ∀ x ∈ o.l, x = 0 ∨ x = 1) : ∃ u, iter FU (fun s => m_law31_MatchSymmetric_L1 FU a (o, e) s.1 s.2) ((0 : Int), o) = some (.inr u) ∧ ∀ j, j < 7 → worse (o.l.getD j 0) (u.l.getD j 0) := by
  obtain ⟨t, h1, u, h2, h3⟩ := iter_inv (σ := Int × A7) (f := fun s => m_law31_MatchSymmetric_L1 FU a (o, e) s.1 s.2) (I := fun k s => ∃ i : Nat, s.1 = i ∧ i + k = 7 ∧ (∀ j, j < i → worse (o.l.getD j 0) (s.2.l.getD j 0)) ∧ ∀ j, i ≤ j → s.2.l.getD j 0 = o.l.getD j 0)
    (Q := fun t : Bool ⊕ A7 => ∃ u, t = .inr u ∧ ∀ j, j < 7 → worse (o.l.getD j 0) (u.l.getD j 0)) (by
    rintro k ⟨c, p⟩ ⟨i, h1, h2, h3, h4⟩
    dsimp only at h1 h3 h4
    subst h1
    simp only [m_law31_MatchSymmetric_L1]
    by_cases hk : k = 0
    · right
      have e0 : i = 7 := by omega
      subst e0
      exact ⟨.inr p, by simp, p, rfl, h3⟩
    · left
      have hi : i < 7 := by omega
      have hm := hs (o.l.getD i 0) (by
        have : i < o.l.length := by simpa [A7.l] using hi
        simp [this])
      rw [if_pos (by simp; omega), ix7 o hi, wadd1 hi (by decide)]
      have h4i := h4 i (Nat.le_refl _)
      obtain ⟨x, hx⟩ : ∃ x, o.l.getD i 0 = x := ⟨_, rfl⟩
      rw [hx] at hm h4i ⊢
      rcases hm with rfl | rfl
      · simp only [Option.bind_some, decide_true, Bool.not_true, Bool.false_eq_true, if_false, Bool.false_and]
        refine ⟨(((i + 1 : Nat) : Int), p), k - 1, rfl, by omega, i + 1, rfl, by omega, fun j hj => ?_, fun j hj => h4 j (by omega)⟩
        by_cases hji : j = i
        · subst hji; exact .inl ⟨hx, h4i⟩
        · exact h3 j (by omega)
      · have hr := and255 (a.l.getD i 0)
        have hb : 0 ≤ bitM .i64 (· &&& ·) (a.l.getD i 0) 255 % 3 ∧ bitM .i64 (· &&& ·) (a.l.getD i 0) 255 % 3 ≤ 2 := by omega
        generalize hq : bitM .i64 (· &&& ·) (a.l.getD i 0) 255 % 3 = q at hb
        obtain ⟨y, hy, hyl⟩ := put7 p hi (1 + q)
        simp only [Option.bind_some, show ¬ ((1 : Int) = 0) by decide, decide_false, decide_true, Bool.not_true, Bool.not_false, if_true, Bool.and_false, Bool.false_eq_true, if_false]
        rw [ix7 a hi, Option.bind_some, remN hr (by decide), Option.bind_some, ix7 p hi, Option.bind_some, hq, w64 (by omega) (by omega), hy]
        simp only [Option.bind_some]
        have hlp : i < p.l.length := by simpa [A7.l] using hi
        refine ⟨(((i + 1 : Nat) : Int), y), k - 1, rfl, by omega, i + 1, rfl, by omega, fun j hj => ?_, fun j hj => ?_⟩
        · show worse _ (y.l.getD j 0)
          rw [hyl, getD_set _ _ _ _ _ hlp]
          by_cases hji : i = j
          · subst hji; rw [if_pos rfl]; exact .inr ⟨hx, by omega, by omega⟩
          · rw [if_neg hji]; exact h3 j (by omega)
        · show y.l.getD j 0 = _
          rw [hyl, getD_set _ _ _ _ _ hlp, if_neg (by omega)]; exact h4 j (by omega)) 7 FU ((0 : Int), o) ⟨0, rfl, rfl, fun j hj => by omega, fun j _ => rfl⟩ (by decide)
  subst h2
  exact ⟨u, h1, h3⟩
def dom (r : A3) : Bool := (List.range 3).all fun k => decide ((r.l.getD k default).fNum.toNat * (r.l.getD 0 default).fDen.toNat ≤ (r.l.getD 0 default).fNum.toNat * (r.l.getD k default).fDen.toNat)
theorem pn_cons (x : SRatio) (l : List SRatio) : pn (x :: l) = x.fNum.toNat * pn l := rfl
theorem pd_cons (x : SRatio) (l : List SRatio) : pd (x :: l) = x.fDen.toNat * pd l := rfl
theorem fz_worse : ∀ {rs : List A3} {ss us : List Int}, (∀ r ∈ rs, dom r = true) → ss.length = us.length → (∀ j, j < ss.length → worse (ss.getD j 0) (us.getD j 0)) → pn (fz rs us) * pd (fz rs ss) ≤ pn (fz rs ss) * pd (fz rs us)
  | [], _, _, _, _, _ => by simp [fz]
  | _ :: _, [], us, _, hl, _ => by
    have : us = [] := List.eq_nil_of_length_eq_zero hl.symm
    subst this; simp [fz]
  | r :: rs, s :: ss, [], _, hl, _ => by simp at hl
  | r :: rs, s :: ss, u :: us, hr, hl, h => by
    have ih := fz_worse (rs := rs) (ss := ss) (us := us) (fun q hq => hr q (List.mem_cons_of_mem _ hq)) (by simpa using hl) (fun j hj => by
      have := h (j + 1) (by simp; omega)
      simpa using this)
    have h0 := h 0 (by simp)
    simp only [List.getD_cons_zero] at h0
    rcases h0 with ⟨rfl, rfl⟩ | ⟨rfl, h1, h2⟩
    · simpa [fz] using ih
    · have hd := hr r (List.mem_cons_self ..)
      have hk : (u - 1).toNat < 3 := by omega
      have hd := of_decide_eq_true (List.all_eq_true.1 hd _ (List.mem_range.2 hk))
      simp only [fz, if_neg (show ¬ u = 0 by omega), if_neg (show ¬ (1 : Int) = 0 by decide), List.singleton_append, pn_cons, pd_cons]
      have e0 : ((1 : Int) - 1).toNat = 0 := rfl
      rw [e0]
      generalize r.l.getD (u - 1).toNat default = x at *
      generalize r.l.getD 0 default = y at *
      generalize pn (fz rs us) = a at *
      generalize pd (fz rs ss) = b at *
      generalize pn (fz rs ss) = c at *
      generalize pd (fz rs us) = d at *
      have := Nat.mul_le_mul hd ih
      calc x.fNum.toNat * a * (y.fDen.toNat * b) = x.fNum.toNat * y.fDen.toNat * (a * b) := by grind
        _ ≤ y.fNum.toNat * x.fDen.toNat * (c * d) := this
        _ = y.fNum.toNat * c * (x.fDen.toNat * d) := by grind
theorem wt_worse {m : A72} {s u : A7} (hm : mvl m = true) (hd : m.l.all dom = true) (hs : oin s = true) (hu : oin u = true) (h : ∀ j, j < 7 → worse (s.l.getD j 0) (u.l.getD j 0)) : wt (fac m u) ≤ wt (fac m s) := by
  have v1 := fac_ovl hm hs
  have v2 := fac_ovl hm hu
  exact isW_cross (wt_ok v2).2.1 (wt_ok v1).2.1 (pd_le v1).1 (fz_worse (fun r hr => List.all_eq_true.1 hd r hr) rfl h)
theorem worse_oin {s u : A7} (h : ∀ j, j < 7 → worse (s.l.getD j 0) (u.l.getD j 0)) : oin u = true := by
  refine oin_iff.2 fun x hx => ?_
  obtain ⟨j, hj, rfl⟩ := List.getElem_of_mem hx
  have := h j (by simpa [A7.l] using hj)
  have e : u.l.getD j 0 = u.l[j] := by simp [hj]
  rw [e] at this
  rcases this with ⟨_, h⟩ | ⟨_, h⟩ <;> omega
theorem sym_L2 {s u : A7} {e : Int} (hs : oin s = true) (hu : oin u = true) (h : ∀ j, j < 7 → worse (s.l.getD j 0) (u.l.getD j 0)) : iter FU (fun k => m_law31_MatchSymmetric_L2 FU (s, e) u WK ED k) (0 : Int) = some (.inr ()) := by
  have step : ∀ j : Nat, j < 2 → m_law31_MatchSymmetric_L2 FU (s, e) u WK ED (j : Int) = some (.inl ((j + 1 : Nat) : Int)) := by
    intro j hj
    have key : ∀ m : A72, mvl m = true → m.l.all dom = true → ((m_match_Weight FU m s).bind fun v22 => (m_match_Weight FU m u).bind fun v23 => if (((!decide (v22.2 = (0 : Int))) || (!decide (v23.2 = (0 : Int)))) || (decide (v22.1 < v23.1))) = true then some (.inr (.inl false)) else some (.inl ((j + 1 : Nat) : Int)) : Option (Int ⊕ (Bool ⊕ Unit))) = some (.inl ((j + 1 : Nat) : Int)) := by
      intro m hm hd
      rw [weight_ok, weight_ok, hm, hs, hu]
      have := wt_worse hm hd hs hu h
      simp [show ¬ wt (fac m s) < wt (fac m u) by omega]
    unfold m_law31_MatchSymmetric_L2
    rw [if_pos (by simp; omega), wadd1 (m := 2) hj (by decide)]
    match j, hj with
    | 0, _ => exact key WK (by decide +kernel) (by decide +kernel)
    | 1, _ => exact key ED (by decide +kernel) (by decide +kernel)
  exact iter_to (fun j => (j : Int)) 2 FU 0 (fun j hj => step j hj) (by unfold m_law31_MatchSymmetric_L2; simp) (by decide) rfl
theorem plain_MatchSymmetric {f g : SFeatures} (hf : FB f) (hg : FB g) (o : A7) : m_law31_MatchSymmetric FU f g o = some true := by
  obtain ⟨b1, w1⟩ := few_ok hf
  obtain ⟨b2, w2⟩ := few_ok hg
  have v1 := refv_ok hf.ok
  have v2 := refv_ok hg.ok
  have c1 := compare_ok hf.ok hg.ok
  have c2 := compare_ok hg.ok hf.ok
  have c3 := compare_ok hf.ok hf.ok
  unfold m_law31_MatchSymmetric m_law29_Own
  rw [awake31, show m_ref29_Few FU (⟨f.fID, f.fTitle, f.fAuthor, f.fYears, f.fIsbns, f.fLangs, f.fPublisher, f.fEdition⟩ : SFeatures) = some b1 from w1, show m_ref29_Few FU (⟨g.fID, g.fTitle, g.fAuthor, g.fYears, g.fIsbns, g.fLangs, g.fPublisher, g.fEdition⟩ : SFeatures) = some b2 from w2, show m_ref29_Valid FU (⟨f.fID, f.fTitle, f.fAuthor, f.fYears, f.fIsbns, f.fLangs, f.fPublisher, f.fEdition⟩ : SFeatures) = some (fv f) from v1, show m_ref29_Valid FU (⟨g.fID, g.fTitle, g.fAuthor, g.fYears, g.fIsbns, g.fLangs, g.fPublisher, g.fEdition⟩ : SFeatures) = some (fv g) from v2]
  simp only [Option.bind_some]
  rw [show m_match_Compare FU (⟨f.fID, f.fTitle, f.fAuthor, f.fYears, f.fIsbns, f.fLangs, f.fPublisher, f.fEdition⟩ : SFeatures) (⟨g.fID, g.fTitle, g.fAuthor, g.fYears, g.fIsbns, g.fLangs, g.fPublisher, g.fEdition⟩ : SFeatures) = _ from c1, show m_match_Compare FU (⟨g.fID, g.fTitle, g.fAuthor, g.fYears, g.fIsbns, g.fLangs, g.fPublisher, g.fEdition⟩ : SFeatures) (⟨f.fID, f.fTitle, f.fAuthor, f.fYears, f.fIsbns, f.fLangs, f.fPublisher, f.fEdition⟩ : SFeatures) = _ from c2, show m_match_Compare FU (⟨f.fID, f.fTitle, f.fAuthor, f.fYears, f.fIsbns, f.fLangs, f.fPublisher, f.fEdition⟩ : SFeatures) (⟨f.fID, f.fTitle, f.fAuthor, f.fYears, f.fIsbns, f.fLangs, f.fPublisher, f.fEdition⟩ : SFeatures) = _ from c3]
  cases b1 with
  | false => simp
  | true =>
    cases b2 with
    | false => simp
    | true =>
      cases hvf : fv f with
      | false => simp
      | true =>
        cases hvg : fv g with
        | false => simp
        | true =>
          have cc := cmp_comm hvf hvg
          obtain ⟨u, hu1, hu2⟩ := sym_L1 (o := cmp f f) (a := o) (e := 0) (cmp_self f)
          have l2 := sym_L2 (e := 0) (cmp_oin f f) (worse_oin hu2) hu2
          simp only [Bool.not_true, Bool.not_false, if_true, Option.bind_some, Bool.or_self, Bool.false_eq_true, if_false, Bool.and_self, decide_true, cc]
          rw [hu1]
          simp only [Option.bind_some, works_ok, editions_ok]
          rw [l2]; rfl
end Go.Proofs.Ytgcmhhcopeiomaa.Ab
