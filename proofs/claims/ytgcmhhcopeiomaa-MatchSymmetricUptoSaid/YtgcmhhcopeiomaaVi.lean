/- A feature left out, in plain Lean. Conditions: none. -/
import Derived.Test.YtgcmhhcopeiomaaVh
import Derived.Test.YtgcmhhcopeiomaaOk
namespace Go.Proofs.Ytgcmhhcopeiomaa.Ab
open Go

theorem fb_of {f : SFeatures} (h : Ok25 1048576 f) : FB f := ⟨h.2.1, h.2.2.1, h.2.2.2.1.1, h.2.2.2.2.1, h.2.2.2.2.2.1, h.2.2.2.2.2.2.1, h.2.2.2.2.2.2.2⟩
theorem factors_loop2 {n : Nat} {m : A72} {o : A7} (ho : oin o = true) (hn : 10 < n) : iter n (fun s => m_match_Factors_f2_L1 n m o s.1 s.2) ((0 : Int), []) = some (fac m o) := by
  have h := oin_iff.1 ho
  obtain ⟨t, h1, h2⟩ := iter_inv (σ := Int × List SRatio) (f := fun s => m_match_Factors_f2_L1 n m o s.1 s.2) (I := fun k s => ∃ i : Nat, s.1 = i ∧ i + k = 7 ∧ s.2.length ≤ i ∧ s.2 ++ fz (m.l.drop i) (o.l.drop i) = fac m o) (Q := fun t : List SRatio => t = fac m o) (by
    rintro k ⟨c, l⟩ ⟨i, h1, h2, h3, h4⟩
    dsimp only at h1 h3 h4
    subst h1
    simp only [m_match_Factors_f2_L1]
    by_cases hk : k = 0
    · right
      have e0 : i = 7 := by omega
      subst e0
      refine ⟨l, by simp, ?_⟩
      rw [List.drop_eq_nil_of_le (by simp [A72.l]), List.drop_eq_nil_of_le (by simp [A7.l])] at h4
      simpa [fz] using h4
    · left
      have hi : i < 7 := by omega
      have ho : i < o.l.length := by simpa [A7.l] using hi
      have hm : i < m.l.length := by simpa [A72.l] using hi
      rw [if_pos (by simp; omega), ix_get 0 ho, Option.bind_some, ix_get default hm, Option.bind_some, wadd1 hi (by decide)]
      rw [fz_drop hm ho] at h4
      have hx := h (o.l.getD i 0) (by simp [ho])
      generalize o.l.getD i 0 = x at *
      by_cases hx0 : x = 0
      · subst hx0
        simp only [if_pos, List.nil_append] at h4
        exact ⟨(((i + 1 : Nat) : Int), l), k - 1, by simp, by omega, i + 1, rfl, by omega, by show l.length ≤ i + 1; omega, h4⟩
      · simp only [if_neg hx0] at h4
        rw [if_pos (by simp [hx0]), w64 (by omega) (by omega), ix_int default (by omega) (by show x - 1 < ((3 : Nat) : Int); omega), Option.bind_some, app_one (by omega) (by omega), Option.bind_some, Option.bind_some]
        exact ⟨_, k - 1, rfl, by omega, i + 1, rfl, by omega, by simp; omega, by rw [← h4]; simp⟩) 7 n ((0 : Int), []) ⟨0, rfl, rfl, by simp, by simp [fac]⟩ (by omega)
  rw [h1, h2]
theorem factors2_WK (o : A7) (ho : oin o = true) : m_match_Factors_f2 FU WK o = some (fac WK o, 0) := by
  have hm : mvl WK = true := by decide +kernel
  unfold m_match_Factors_f2
  have e : m_slices_ContainsFunc_int_int FU o.l (fun y1 => m_match_Factors_1 FU y1) = some (!oin o) := by
    have h : m_slices_ContainsFunc_int_int FU o.l (fun y1 => m_match_Factors_1 FU y1) = some (o.l.any fun x => decide (x < 0) || decide (3 < x)) :=
      contains_loop FU o.l (fun y1 => m_match_Factors_1 FU y1) (fun x => decide (x < 0) || decide (3 < x)) (fun x _ => rfl) (show 7 ≤ ML by decide) (show 7 < FU by decide)
    rw [h]
    congr 1
    unfold oin
    rw [List.not_all_eq_any_not]
    congr 1
    funext x
    rw [Bool.eq_iff_iff]; simp <;> omega
  have v : m_match_Valid FU WK = some true := by rw [valid_ok, hm]
  have v' := v
  unfold WK at v'
  simp only [WK] at e ⊢
  rw [v', e, ho]
  simp only [Option.bind_some, Bool.not_true, Bool.not_false, if_true, Bool.or_self, Bool.false_eq_true, if_false]
  have l := factors_loop2 (m := WK) ho (show 10 < FU by decide)
  unfold WK at l
  rw [l]; rfl
theorem fz_miss : ∀ {rs : List A3} {os : List Int} {k : Nat}, k < rs.length → k < os.length → os.getD k 0 ≠ 0 →
    pn (fz rs os) = pn (fz rs (os.set k 0)) * ((rs.getD k default).l.getD (os.getD k 0 - 1).toNat default).fNum.toNat ∧ pd (fz rs os) = pd (fz rs (os.set k 0)) * ((rs.getD k default).l.getD (os.getD k 0 - 1).toNat default).fDen.toNat
  | [], _, _, h, _, _ => by simp at h
  | _ :: _, [], _, _, h, _ => by simp at h
  | r :: rs, o :: os, 0, _, _, h0 => by
    simp only [List.getD_cons_zero] at h0
    simp only [fz, List.getD_cons_zero, List.set_cons_zero, if_neg h0, if_true, List.nil_append, List.singleton_append, pn_cons, pd_cons]
    exact ⟨Nat.mul_comm _ _, Nat.mul_comm _ _⟩
  | r :: rs, o :: os, k + 1, h1, h2, h0 => by
    have ih := fz_miss (rs := rs) (os := os) (k := k) (by simpa using h1) (by simpa using h2) (by simpa using h0)
    simp only [fz, List.getD_cons_succ, List.set_cons_succ]
    rw [pn_append, pd_append, pn_append, pd_append, ih.1, ih.2]
    exact ⟨(Nat.mul_assoc _ _ _).symm, (Nat.mul_assoc _ _ _).symm⟩
theorem set_zero {l : List Int} {k : Nat} (h : l.getD k 0 = 0) : l.set k 0 = l := by
  apply List.ext_getElem?
  intro i
  rw [List.getElem?_set]
  by_cases hi : k = i
  · subst hi
    by_cases hl : k < l.length
    · have : l[k] = 0 := by simpa [hl] using h
      simp [hl, this]
    · simp [hl]
  · simp [hi]
/-- The end of the statement, whatever feature was left out. -/
theorem miss_tail {o o' : A7} {k : Nat} (hk : k < 7) (ho : oin o = true) (hs : o'.l = o.l.set k 0) :
    ((m_match_Factors_f2 FU WK o).bind fun v18 => (m_match_Factors_f2 FU WK o').bind fun v19 =>
      if ((!decide (v18.2 = (0 : Int))) || (!decide (v19.2 = (0 : Int)))) = true then some false else
      ((ix o.l (k : Int)).bind fun v20 => if (!decide (v20 = (0 : Int))) = true then
          (ix o.l (k : Int)).bind fun v21 => (ix WK.l (k : Int)).bind fun v22 => (ix v22.l (IntKind.i64.wrap (v21 - (1 : Int)))).bind fun v23 => (app 16 v19.1 ([v23] : List SRatio)).bind fun v24 => some v24
        else some v19.1 : Option (List SRatio)).bind fun t25 =>
      (m_odds_Compare FU v18.1 t25).bind fun v26 => (ix o.l (k : Int)).bind fun v27 => (A7.put o (k : Int) (0 : Int)).bind fun v28 =>
      some (((decide (v26.2 = (0 : Int))) && (decide (v26.1 = (0 : Int)))) && (decide (v28 = o'))) : Option Bool) = some true := by
  have hm : mvl WK = true := by decide +kernel
  have ho' : oin o' = true := by
    rw [oin_iff, hs]
    intro x hx
    rcases List.mem_or_eq_of_mem_set hx with h | rfl
    · exact oin_iff.1 ho x h
    · omega
  have v1 := fac_ovl hm ho
  have v2 := fac_ovl hm ho'
  have hkl : k < o.l.length := by simpa [A7.l] using hk
  have hkw : k < WK.l.length := by simpa [A72.l] using hk
  obtain ⟨y, hy, hyl⟩ := put7 o hk 0
  have hyo : y = o' := A7.l_inj _ _ (by rw [hyl, hs])
  rw [factors2_WK o ho, factors2_WK o' ho', hy, ix7 o hk]
  simp only [Option.bind_some, decide_true, Bool.not_true, Bool.or_self, Bool.false_eq_true, if_false]
  have hx := oin_iff.1 ho (o.l.getD k 0) (by simp [hkl])
  by_cases h0 : o.l.getD k 0 = 0
  · have e : o' = o := A7.l_inj _ _ (by rw [hs, set_zero h0])
    rw [if_neg (by rw [h0]; decide), Option.bind_some, e, odds_Compare v1 v1 fu4, Option.bind_some]
    have z : ∀ q : Nat, sgn q q = 0 := fun q => by unfold sgn; rw [if_neg (Nat.lt_irrefl _), if_pos rfl]
    rw [z, hyo, e]; simp
  · rw [if_pos (by rw [decide_eq_false h0]; rfl), ix_get default hkw, Option.bind_some, w64 (by omega) (by omega), ix_int default (by omega) (by show o.l.getD k 0 - 1 < ((3 : Nat) : Int); omega), Option.bind_some]
    have ms := fz_miss hkw hkl h0
    rw [← hs] at ms
    have e1 : pn (fac WK o) = pn (fac WK o') * _ := ms.1
    have e2 : pd (fac WK o) = pd (fac WK o') * _ := ms.2
    have hr : rok ((WK.l.getD k default).l.getD (o.l.getD k 0 - 1).toNat default) = true := by
      have h1 : WK.l.getD k default ∈ WK.l := by simp [hkw]
      refine rok_def (List.all_eq_true.1 hm _ h1) _ ?_
      have h2 : (o.l.getD k 0 - 1).toNat < (WK.l.getD k default).l.length := by show _ < 3; omega
      simp only [List.getD_eq_getElem?_getD] at h2 ⊢
      rw [List.getElem?_eq_getElem h2]
      exact List.getElem_mem _
    generalize (WK.l.getD k default).l.getD (o.l.getD k 0 - 1).toNat default = x at *
    have hl := fac_len WK o'
    rw [app_one (by omega) (by omega), Option.bind_some, Option.bind_some]
    have v3 : ovl (fac WK o' ++ [x]) = true := by
      simp only [ovl, Bool.and_eq_true, decide_eq_true_eq] at v2 ⊢
      exact ⟨by simp; omega, by simp only [List.all_append, v2.2, List.all_cons, hr, List.all_nil, Bool.and_self]⟩
    rw [odds_Compare v1 v3 fu4, Option.bind_some]
    have z : sgn (pn (fac WK o) * pd (fac WK o' ++ [x])) (pn (fac WK o' ++ [x]) * pd (fac WK o)) = 0 := by
      rw [pn_append, pd_append, e1, e2]
      have q1 : pn [x] = x.fNum.toNat := by simp [pr]
      have q2 : pd [x] = x.fDen.toNat := by simp [pr]
      rw [q1, q2]
      unfold sgn
      rw [if_neg (by omega), if_pos rfl]
    rw [z]
    simp [hyo]
def lss (f : SFeatures) : Nat → SFeatures
  | 0 => { f with fTitle := [] }
  | 1 => { f with fAuthor := [] }
  | 2 => { f with fYears := [] }
  | 3 => { f with fIsbns := [] }
  | 4 => { f with fLangs := [] }
  | 5 => { f with fPublisher := [] }
  | _ => { f with fEdition := [] }
theorem nil_facts : txs [] ∧ ([] : List (List UInt8)).all wrd = true ∧ aut [] = true ∧ yrs [] = true ∧ asc [] = true := ⟨txs_nil, rfl, by decide, by decide, by decide⟩
theorem lss_ok {f : SFeatures} (h : FOk f) (k : Nat) : FOk (lss f k) := by
  have z := txs_nil
  unfold lss
  split
  · exact { h with t := z }
  · exact { h with a := by simp }
  · exact { h with y := by simp }
  · exact { h with i := z }
  · exact { h with l := z }
  · exact { h with p := z }
  · exact { h with e := z }
theorem lss_fv {f : SFeatures} (h : fv f = true) (k : Nat) : fv (lss f k) = true := by
  obtain ⟨_, _, n3, n4, n5⟩ := nil_facts
  simp only [fv, Bool.and_eq_true, decide_eq_true_eq] at h ⊢
  unfold lss
  split <;> simp_all
theorem lss_cmp (f g : SFeatures) {k : Nat} (hk : k < 7) : (cmp (lss f k) g).l = (cmp f g).l.set k 0 := by
  match k, hk with
  | 0, _ => simp [lss, cmp, A7.l, cT]
  | 1, _ => simp [lss, cmp, A7.l, cA]
  | 2, _ => simp [lss, cmp, A7.l, cY]
  | 3, _ => simp [lss, cmp, A7.l, cS]
  | 4, _ => simp [lss, cmp, A7.l, cS]
  | 5, _ => simp [lss, cmp, A7.l, cP]
  | 6, _ => simp [lss, cmp, A7.l, cE]
theorem lss_tuple (f : SFeatures) {k : Nat} (hk : k < 7) : (if (decide ((k : Int) = (0 : Int))) = true then some ([], f.fAuthor, f.fYears, f.fIsbns, f.fLangs, f.fPublisher, f.fEdition)
            else if (decide ((k : Int) = (1 : Int))) = true then some (f.fTitle, ([] : List UInt8), f.fYears, f.fIsbns, f.fLangs, f.fPublisher, f.fEdition)
            else if (decide ((k : Int) = (2 : Int))) = true then some (f.fTitle, f.fAuthor, [], f.fIsbns, f.fLangs, f.fPublisher, f.fEdition)
            else if (decide ((k : Int) = (3 : Int))) = true then some (f.fTitle, f.fAuthor, f.fYears, [], f.fLangs, f.fPublisher, f.fEdition)
            else if (decide ((k : Int) = (4 : Int))) = true then some (f.fTitle, f.fAuthor, f.fYears, f.fIsbns, [], f.fPublisher, f.fEdition)
            else if (decide ((k : Int) = (5 : Int))) = true then some (f.fTitle, f.fAuthor, f.fYears, f.fIsbns, f.fLangs, [], f.fEdition)
            else some (f.fTitle, f.fAuthor, f.fYears, f.fIsbns, f.fLangs, f.fPublisher, []) : Option ((List (List UInt8)) × (List UInt8) × (List Int) × (List (List UInt8)) × (List (List UInt8)) × (List (List UInt8)) × (List (List UInt8)))) =
            some ((lss f k).fTitle, (lss f k).fAuthor, (lss f k).fYears, (lss f k).fIsbns, (lss f k).fLangs, (lss f k).fPublisher, (lss f k).fEdition) := by
  obtain rfl | rfl | rfl | rfl | rfl | rfl | rfl : k = 0 ∨ k = 1 ∨ k = 2 ∨ k = 3 ∨ k = 4 ∨ k = 5 ∨ k = 6 := by omega
  all_goals rfl
theorem plain_MatchMissing {f g : SFeatures} {a : Int} (hf : FB f) (hg : FB g) (ha : 0 ≤ a ∧ a ≤ 255) : m_law31_MatchMissing FU f g a = some true := by
  obtain ⟨b1, w1⟩ := few_ok hf
  obtain ⟨b2, w2⟩ := few_ok hg
  have v1 := refv_ok hf.ok
  have v2 := refv_ok hg.ok
  unfold m_law31_MatchMissing m_law29_Own
  rw [awake31, show m_ref29_Few FU (⟨f.fID, f.fTitle, f.fAuthor, f.fYears, f.fIsbns, f.fLangs, f.fPublisher, f.fEdition⟩ : SFeatures) = some b1 from w1, show m_ref29_Few FU (⟨g.fID, g.fTitle, g.fAuthor, g.fYears, g.fIsbns, g.fLangs, g.fPublisher, g.fEdition⟩ : SFeatures) = some b2 from w2, show m_ref29_Valid FU (⟨f.fID, f.fTitle, f.fAuthor, f.fYears, f.fIsbns, f.fLangs, f.fPublisher, f.fEdition⟩ : SFeatures) = some (fv f) from v1, show m_ref29_Valid FU (⟨g.fID, g.fTitle, g.fAuthor, g.fYears, g.fIsbns, g.fLangs, g.fPublisher, g.fEdition⟩ : SFeatures) = some (fv g) from v2]
  simp only [Option.bind_some]
  cases b1 with
  | false => simp
  | true =>
    cases b2 with
    | false => simp
    | true =>
      cases hvf : fv f with
      | false => simp
      | true =>
        cases hvg : fv g with
        | false => simp
        | true =>
          obtain ⟨k, hk, hk2⟩ : ∃ k : Nat, k < 7 ∧ a % 7 = (k : Int) := ⟨(a % 7).toNat, by omega, by omega⟩
          rw [w64 (by omega) (by omega), remN ha.1 (by decide), hk2]
          have c1 := compare_ok hf.ok hg.ok
          have c2 := compare_ok (lss_ok hf.ok k) hg.ok
          rw [hvf, hvg] at c1
          rw [lss_fv hvf k, hvg] at c2
          simp only [Bool.and_self, if_true] at c1 c2
          have hs := lss_cmp f g hk
          have mt := miss_tail hk (cmp_oin f g) hs
          have hid : (lss f k).fID = f.fID := by unfold lss; split <;> rfl
          simp only [Bool.not_true, Bool.or_self, Bool.false_eq_true, if_false, Option.bind_some]
          rw [lss_tuple f hk]
          simp only [Option.bind_some]
          rw [show m_match_Compare FU (⟨f.fID, f.fTitle, f.fAuthor, f.fYears, f.fIsbns, f.fLangs, f.fPublisher, f.fEdition⟩ : SFeatures) (⟨g.fID, g.fTitle, g.fAuthor, g.fYears, g.fIsbns, g.fLangs, g.fPublisher, g.fEdition⟩ : SFeatures) = _ from c1]
          have c3 : m_match_Compare FU (⟨f.fID, (lss f k).fTitle, (lss f k).fAuthor, (lss f k).fYears, (lss f k).fIsbns, (lss f k).fLangs, (lss f k).fPublisher, (lss f k).fEdition⟩ : SFeatures) (⟨g.fID, g.fTitle, g.fAuthor, g.fYears, g.fIsbns, g.fLangs, g.fPublisher, g.fEdition⟩ : SFeatures) = some (cmp (lss f k) g, 0) := by rw [← hid]; exact c2
          rw [c3]
          have hz : (cmp (lss f k) g).l.getD k 0 = 0 := by
            rw [hs, getD_set _ _ _ _ _ (by simpa [A7.l] using hk), if_pos rfl]
          simp only [Option.bind_some, decide_true, Bool.not_true, Bool.or_self, Bool.false_eq_true, if_false, if_true, Bool.not_false, works_ok]
          rw [ix7 (cmp (lss f k) g) hk, hz]
          simp only [Option.bind_some, decide_true, Bool.not_true, Bool.false_eq_true, if_false]
          exact mt
end Go.Proofs.Ytgcmhhcopeiomaa.Ab
