/- Factors, weights and their sums, in plain Lean. Conditions: none. -/
import Derived.Test.YtgcmhhcopeiomaaVe
namespace Go.Proofs.Ytgcmhhcopeiomaa.Ab
open Go

/-- The factors of an outcome. -/
def fz : List A3 → List Int → List SRatio
  | r :: rs, o :: os => (if o = 0 then [] else [r.l.getD (o - 1).toNat default]) ++ fz rs os
  | _, _ => []
theorem fz_len : ∀ (rs : List A3) (os : List Int), (fz rs os).length ≤ rs.length
  | [], _ => by simp [fz]
  | _ :: _, [] => by simp [fz]
  | r :: rs, o :: os => by
    have := fz_len rs os
    simp only [fz, List.length_append, List.length_cons]
    split <;> simp <;> omega
theorem fz_drop {rs : List A3} {os : List Int} {i : Nat} (h1 : i < rs.length) (h2 : i < os.length) : fz (rs.drop i) (os.drop i) = (if os.getD i 0 = 0 then [] else [(rs.getD i default).l.getD (os.getD i 0 - 1).toNat default]) ++ fz (rs.drop (i + 1)) (os.drop (i + 1)) := by
  rw [List.drop_eq_getElem_cons h1, List.drop_eq_getElem_cons h2, fz]
  simp [h1, h2]
def oin (o : A7) : Bool := o.l.all fun x => decide (0 ≤ x) && decide (x ≤ 3)
theorem oin_iff {o : A7} : oin o = true ↔ ∀ x ∈ o.l, 0 ≤ x ∧ x ≤ 3 := by simp [oin]
def fac (m : A72) (o : A7) : List SRatio := fz m.l o.l
theorem fac_len (m : A72) (o : A7) : (fac m o).length ≤ 7 := fz_len m.l o.l
theorem rok_def : ∀ {r : A3}, ovl r.l = true → ∀ x ∈ r.l, rok x = true := by
  intro r h x hx
  simp only [ovl, Bool.and_eq_true] at h
  exact List.all_eq_true.1 h.2 x hx
theorem fz_rok : ∀ {rs : List A3} {os : List Int}, (∀ r ∈ rs, ovl r.l = true) → (∀ x ∈ os, 0 ≤ x ∧ x ≤ 3) → ∀ x ∈ fz rs os, rok x = true
  | [], _, _, _, x, hx => by simp [fz] at hx
  | _ :: _, [], _, _, x, hx => by simp [fz] at hx
  | r :: rs, o :: os, h1, h2, x, hx => by
    simp only [fz, List.mem_append] at hx
    rcases hx with hx | hx
    · split at hx
      · cases hx
      · simp only [List.mem_singleton] at hx
        have ho := h2 o (List.mem_cons_self ..)
        subst hx
        refine rok_def (h1 r (List.mem_cons_self ..)) _ ?_
        have hk : (o - 1).toNat < 3 := by omega
        simp only [List.getD_eq_getElem?_getD]
        rw [List.getElem?_eq_getElem (by simpa [A3.l] using hk)]
        exact List.getElem_mem _
    · exact fz_rok (fun r hr => h1 r (List.mem_cons_of_mem _ hr)) (fun y hy => h2 y (List.mem_cons_of_mem _ hy)) x hx
theorem fac_ovl {m : A72} {o : A7} (hm : mvl m = true) (ho : oin o = true) : ovl (fac m o) = true := by
  have h1 := fac_len m o
  simp only [ovl, Bool.and_eq_true, decide_eq_true_eq]
  exact ⟨by omega, List.all_eq_true.2 (fz_rok (fun r hr => List.all_eq_true.1 hm r hr) (oin_iff.1 ho))⟩
theorem factors_loop {n : Nat} {m : A72} {o : A7} (ho : oin o = true) (hn : 10 < n) : iter n (fun s => m_match_Factors_L1 n m o s.1 s.2) ([], (0 : Int)) = some (fac m o) := by
  have h := oin_iff.1 ho
  obtain ⟨t, h1, h2⟩ := iter_inv (σ := List SRatio × Int) (f := fun s => m_match_Factors_L1 n m o s.1 s.2) (I := fun k s => ∃ i : Nat, s.2 = i ∧ i + k = 7 ∧ s.1.length ≤ i ∧ s.1 ++ fz (m.l.drop i) (o.l.drop i) = fac m o) (Q := fun t : List SRatio => t = fac m o) (by
    rintro k ⟨l, c⟩ ⟨i, h1, h2, h3, h4⟩
    dsimp only at h1 h3 h4
    subst h1
    simp only [m_match_Factors_L1]
    by_cases hk : k = 0
    · right
      have e0 : i = 7 := by omega
      subst e0
      refine ⟨l, by simp, ?_⟩
      rw [List.drop_eq_nil_of_le (by simp [A72.l]), List.drop_eq_nil_of_le (by simp [A7.l])] at h4
      simpa [fz] using h4
    · left
      have hi : i < 7 := by omega
      have ho : i < o.l.length := by simpa [A7.l] using hi
      have hm : i < m.l.length := by simpa [A72.l] using hi
      rw [if_pos (by simp; omega), ix_get 0 ho, Option.bind_some, ix_get default hm, Option.bind_some, wadd1 hi (by decide)]
      rw [fz_drop hm ho] at h4
      have hx := h (o.l.getD i 0) (by simp [ho])
      generalize o.l.getD i 0 = x at *
      by_cases hx0 : x = 0
      · subst hx0
        simp only [if_pos, List.nil_append] at h4
        exact ⟨(l, ((i + 1 : Nat) : Int)), k - 1, by simp, by omega, i + 1, rfl, by omega, by show l.length ≤ i + 1; omega, h4⟩
      · simp only [if_neg hx0] at h4
        rw [if_pos (by simp [hx0]), w64 (by omega) (by omega), ix_int default (by omega) (by show x - 1 < ((3 : Nat) : Int); omega), Option.bind_some, app_one (by omega) (by omega), Option.bind_some, Option.bind_some]
        exact ⟨_, k - 1, rfl, by omega, i + 1, rfl, by omega, by simp; omega, by rw [← h4]; simp⟩) 7 n ([], 0) ⟨0, rfl, rfl, by simp, by simp [fac]⟩ (by omega)
  rw [h1, h2]
theorem factors_ok (m : A72) (o : A7) : m_match_Factors FU m o = some (if (mvl m && oin o) = true then (fac m o, 0) else ([], 1)) := by
  unfold m_match_Factors
  rw [show m_match_Valid FU (⟨(⟨(⟨m.e0.e0.fNum, m.e0.e0.fDen⟩ : SRatio), (⟨m.e0.e1.fNum, m.e0.e1.fDen⟩ : SRatio), (⟨m.e0.e2.fNum, m.e0.e2.fDen⟩ : SRatio)⟩ : A3), (⟨(⟨m.e1.e0.fNum, m.e1.e0.fDen⟩ : SRatio), (⟨m.e1.e1.fNum, m.e1.e1.fDen⟩ : SRatio), (⟨m.e1.e2.fNum, m.e1.e2.fDen⟩ : SRatio)⟩ : A3), (⟨(⟨m.e2.e0.fNum, m.e2.e0.fDen⟩ : SRatio), (⟨m.e2.e1.fNum, m.e2.e1.fDen⟩ : SRatio), (⟨m.e2.e2.fNum, m.e2.e2.fDen⟩ : SRatio)⟩ : A3), (⟨(⟨m.e3.e0.fNum, m.e3.e0.fDen⟩ : SRatio), (⟨m.e3.e1.fNum, m.e3.e1.fDen⟩ : SRatio), (⟨m.e3.e2.fNum, m.e3.e2.fDen⟩ : SRatio)⟩ : A3), (⟨(⟨m.e4.e0.fNum, m.e4.e0.fDen⟩ : SRatio), (⟨m.e4.e1.fNum, m.e4.e1.fDen⟩ : SRatio), (⟨m.e4.e2.fNum, m.e4.e2.fDen⟩ : SRatio)⟩ : A3), (⟨(⟨m.e5.e0.fNum, m.e5.e0.fDen⟩ : SRatio), (⟨m.e5.e1.fNum, m.e5.e1.fDen⟩ : SRatio), (⟨m.e5.e2.fNum, m.e5.e2.fDen⟩ : SRatio)⟩ : A3), (⟨(⟨m.e6.e0.fNum, m.e6.e0.fDen⟩ : SRatio), (⟨m.e6.e1.fNum, m.e6.e1.fDen⟩ : SRatio), (⟨m.e6.e2.fNum, m.e6.e2.fDen⟩ : SRatio)⟩ : A3)⟩ : A72) = some (mvl m) from valid_ok m]
  have e : m_slices_ContainsFunc_int_int FU o.l (fun y1 => m_match_Factors_1 FU y1) = some (!oin o) := by
    have h : m_slices_ContainsFunc_int_int FU o.l (fun y1 => m_match_Factors_1 FU y1) = some (o.l.any fun x => decide (x < 0) || decide (3 < x)) :=
      contains_loop FU o.l (fun y1 => m_match_Factors_1 FU y1) (fun x => decide (x < 0) || decide (3 < x)) (fun x _ => rfl) (show 7 ≤ ML by decide) (show 7 < FU by decide)
    rw [h]
    congr 1
    unfold oin
    rw [List.not_all_eq_any_not]
    congr 1
    funext x
    rw [Bool.eq_iff_iff]; simp <;> omega
  simp only [Option.bind_some]
  cases hm : mvl m with
  | false => simp
  | true =>
    simp only [Bool.not_true, Bool.not_false, if_true, Bool.false_or, Bool.true_and, e, Option.bind_some]
    cases ho : oin o with
    | false => simp
    | true =>
      simp only [Bool.not_true, Bool.false_eq_true, if_false, if_true]
      rw [factors_loop ho (by decide)]; rfl
/-- The weight of a list. -/
noncomputable def wt (l : List SRatio) : Int := ((m_odds_Weight FU l).getD (0, 0)).1
theorem wt_ok {l : List SRatio} (h : ovl l = true) : m_odds_Weight FU l = some (wt l, 0) ∧ isW (pn l ^ 8) (pd l ^ 8) (wt l) ∧ -960 ≤ wt l ∧ wt l ≤ 960 := by
  obtain ⟨w, h1, h2, h3, h4⟩ := odds_Weight h fu4
  unfold wt
  rw [h1]
  exact ⟨rfl, h2, h3, h4⟩
theorem weight_ok (m : A72) (o : A7) : m_match_Weight FU m o = some (if (mvl m && oin o) = true then (wt (fac m o), 0) else (0, 1)) := by
  unfold m_match_Weight
  rw [show m_match_Factors FU (⟨(⟨(⟨m.e0.e0.fNum, m.e0.e0.fDen⟩ : SRatio), (⟨m.e0.e1.fNum, m.e0.e1.fDen⟩ : SRatio), (⟨m.e0.e2.fNum, m.e0.e2.fDen⟩ : SRatio)⟩ : A3), (⟨(⟨m.e1.e0.fNum, m.e1.e0.fDen⟩ : SRatio), (⟨m.e1.e1.fNum, m.e1.e1.fDen⟩ : SRatio), (⟨m.e1.e2.fNum, m.e1.e2.fDen⟩ : SRatio)⟩ : A3), (⟨(⟨m.e2.e0.fNum, m.e2.e0.fDen⟩ : SRatio), (⟨m.e2.e1.fNum, m.e2.e1.fDen⟩ : SRatio), (⟨m.e2.e2.fNum, m.e2.e2.fDen⟩ : SRatio)⟩ : A3), (⟨(⟨m.e3.e0.fNum, m.e3.e0.fDen⟩ : SRatio), (⟨m.e3.e1.fNum, m.e3.e1.fDen⟩ : SRatio), (⟨m.e3.e2.fNum, m.e3.e2.fDen⟩ : SRatio)⟩ : A3), (⟨(⟨m.e4.e0.fNum, m.e4.e0.fDen⟩ : SRatio), (⟨m.e4.e1.fNum, m.e4.e1.fDen⟩ : SRatio), (⟨m.e4.e2.fNum, m.e4.e2.fDen⟩ : SRatio)⟩ : A3), (⟨(⟨m.e5.e0.fNum, m.e5.e0.fDen⟩ : SRatio), (⟨m.e5.e1.fNum, m.e5.e1.fDen⟩ : SRatio), (⟨m.e5.e2.fNum, m.e5.e2.fDen⟩ : SRatio)⟩ : A3), (⟨(⟨m.e6.e0.fNum, m.e6.e0.fDen⟩ : SRatio), (⟨m.e6.e1.fNum, m.e6.e1.fDen⟩ : SRatio), (⟨m.e6.e2.fNum, m.e6.e2.fDen⟩ : SRatio)⟩ : A3)⟩ : A72) (⟨o.e0, o.e1, o.e2, o.e3, o.e4, o.e5, o.e6⟩ : A7) = _ from factors_ok m o, Option.bind_some]
  cases hm : mvl m with
  | false => simp
  | true =>
    cases ho : oin o with
    | false => simp
    | true => simp [(wt_ok (fac_ovl hm ho)).1]

/-! ### sums -/
theorem ovl_one {x : SRatio} {l : List SRatio} (h : ovl l = true) (hx : x ∈ l) : ovl [x] = true := by
  simp only [ovl, Bool.and_eq_true] at h ⊢
  exact ⟨by simp, by simp [List.all_eq_true.1 h.2 x hx]⟩
theorem ovl_tail {x : SRatio} {l : List SRatio} (h : ovl (x :: l) = true) : ovl l = true := by
  simp only [ovl, Bool.and_eq_true, decide_eq_true_eq, List.length_cons, List.all_cons] at h ⊢
  exact ⟨by omega, h.2.2⟩
noncomputable def wsum : List SRatio → Int
  | [] => 0
  | x :: l => wt [x] + wsum l
theorem wt_nil : wt [] = 0 := by
  unfold wt
  rw [show m_odds_Weight FU [] = some (0, 0) by decide +kernel]; rfl
theorem wt_sums : ∀ {l : List SRatio}, ovl l = true → wsum l ≤ wt l ∧ wt l - wsum l ≤ max 0 ((l.length : Int) - 1)
  | [], _ => by rw [wt_nil]; simp only [wsum, List.length_nil]; omega
  | [x], _ => by simp [wsum]
  | x :: y :: l, h => by
    have hx := ovl_one h (List.mem_cons_self ..)
    have ht := ovl_tail h
    have ih := wt_sums ht
    obtain ⟨_, a1, _⟩ := wt_ok hx
    obtain ⟨_, a2, _⟩ := wt_ok ht
    obtain ⟨_, a3, _⟩ := wt_ok h
    have p2 := pd_le hx
    have p3 := pd_le ht
    have e1 : pn (x :: y :: l) = pn [x] * pn (y :: l) := pn_append [x] (y :: l)
    have e2 : pd (x :: y :: l) = pd [x] * pd (y :: l) := pd_append [x] (y :: l)
    rw [e1, e2, Nat.mul_pow, Nat.mul_pow] at a3
    have := isW_mul a1 a2 (Nat.pow_pos p2.1) (Nat.pow_pos p3.1) a3
    have e3 : wsum (x :: y :: l) = wt [x] + wsum (y :: l) := rfl
    rw [e3]
    simp only [List.length_cons] at ih ⊢
    omega
theorem wsum_le : ∀ {l : List SRatio}, ovl l = true → -(960 * (l.length : Int)) ≤ wsum l ∧ wsum l ≤ 960 * (l.length : Int)
  | [], _ => by simp [wsum]
  | x :: l, h => by
    have ih := wsum_le (ovl_tail h)
    have hx := (wt_ok (ovl_one h (List.mem_cons_self ..))).2.2
    simp only [wsum, List.length_cons]; omega
theorem put7 (o : A7) {i : Nat} (h : i < 7) (v : Int) : ∃ y : A7, A7.put o (i : Int) v = some y ∧ y.l = o.l.set i v := by
  match i, h with
  | 0, _ => exact ⟨_, rfl, rfl⟩
  | 1, _ => exact ⟨_, rfl, rfl⟩
  | 2, _ => exact ⟨_, rfl, rfl⟩
  | 3, _ => exact ⟨_, rfl, rfl⟩
  | 4, _ => exact ⟨_, rfl, rfl⟩
  | 5, _ => exact ⟨_, rfl, rfl⟩
  | 6, _ => exact ⟨_, rfl, rfl⟩
theorem and3 (v : Int) : 0 ≤ bitM .i64 (· &&& ·) v 3 ∧ bitM .i64 (· &&& ·) v 3 ≤ 3 := by
  unfold bitM
  have h : ((BitVec.ofInt IntKind.i64.bits v) &&& (BitVec.ofInt IntKind.i64.bits 3)).toNat ≤ 3 := by
    rw [BitVec.toNat_and]
    exact Nat.le_trans Nat.and_le_right (by decide)
  generalize ((BitVec.ofInt IntKind.i64.bits v) &&& (BitVec.ofInt IntKind.i64.bits 3)).toNat = k at h ⊢
  rw [w64 (by omega) (by omega)]; omega
theorem sums_L1 (o : A7) : ∃ t, iter FU (fun s => m_law31_MatchSums_L1 FU s.1 s.2) ((0 : Int), o) = some t ∧ oin t = true := by
  obtain ⟨t, h1, h2⟩ := iter_inv (σ := Int × A7) (f := fun s => m_law31_MatchSums_L1 FU s.1 s.2) (I := fun k s => ∃ i : Nat, s.1 = i ∧ i + k = 7 ∧ ∀ j, j < i → 0 ≤ s.2.l.getD j 0 ∧ s.2.l.getD j 0 ≤ 3) (Q := fun t : A7 => oin t = true) (by
    rintro k ⟨c, o⟩ ⟨i, h1, h2, h3⟩
    dsimp only at h1 h3
    subst h1
    simp only [m_law31_MatchSums_L1]
    by_cases hk : k = 0
    · right
      have e0 : i = 7 := by omega
      subst e0
      refine ⟨o, by simp, oin_iff.2 fun x hx => ?_⟩
      obtain ⟨j, hj, rfl⟩ := List.getElem_of_mem hx
      have := h3 j (by simpa [A7.l] using hj)
      simpa [hj] using this
    · left
      have hi : i < 7 := by omega
      have hl : i < o.l.length := by simpa [A7.l] using hi
      obtain ⟨y, hy, hyl⟩ := put7 o hi (bitM .i64 (· &&& ·) (o.l.getD i 0) 3)
      rw [if_pos (by simp; omega), ix_get 0 hl, Option.bind_some, Option.bind_some, hy, Option.bind_some, wadd1 hi (by decide)]
      refine ⟨_, k - 1, rfl, by omega, i + 1, rfl, by omega, fun j hj => ?_⟩
      show 0 ≤ y.l.getD j 0 ∧ y.l.getD j 0 ≤ 3
      rw [hyl, getD_set _ _ _ _ _ hl]
      split
      · exact and3 _
      · exact h3 j (by omega)) 7 FU ((0 : Int), o) ⟨0, rfl, rfl, fun j hj => by omega⟩ (by decide)
  exact ⟨t, h1, h2⟩
theorem wsum_drop {l : List SRatio} {i : Nat} (h : i < l.length) : wsum (l.drop i) = wt [l.getD i default] + wsum (l.drop (i + 1)) := by
  rw [List.drop_eq_getElem_cons h, wsum]; simp [h]
theorem sums_L2 {l : List SRatio} {e : Int} (h : ovl l = true) : iter FU (fun s => m_law31_MatchSums_L2 FU (l, e) s.1 s.2) ((0 : Int), (0 : Int)) = some (.inr (wsum l)) := by
  have h12 := (ovl_iff.1 h).1
  obtain ⟨t, h1, h2⟩ := iter_inv (σ := Int × Int) (f := fun s => m_law31_MatchSums_L2 FU (l, e) s.1 s.2) (I := fun k s => ∃ i : Nat, s.2 = i ∧ i + k = l.length ∧ s.1 + wsum (l.drop i) = wsum l ∧ -(960 * (i : Int)) ≤ s.1 ∧ s.1 ≤ 960 * (i : Int)) (Q := fun t : Bool ⊕ Int => t = .inr (wsum l)) (by
    rintro k ⟨s, c⟩ ⟨i, h1, h2, h3, h4, h5⟩
    dsimp only at h1 h3 h4 h5
    subst h1
    simp only [m_law31_MatchSums_L2]
    by_cases hk : k = 0
    · right
      have e0 : i = l.length := by omega
      subst e0
      rw [List.drop_length] at h3
      refine ⟨.inr s, by simp, ?_⟩
      simp only [wsum] at h3
      congr 1; omega
    · left
      have hi : i < l.length := by omega
      rw [wsum_drop hi] at h3
      have hm : l.getD i default ∈ l := by simp [hi]
      rw [if_pos (by simp; omega), ix_get default hi, Option.bind_some]
      generalize l.getD i default = x at *
      obtain ⟨w1, _, w3, w4⟩ := wt_ok (ovl_one h hm)
      rw [show m_odds_Weight FU [(⟨x.fNum, x.fDen⟩ : SRatio)] = _ from w1, Option.bind_some, if_neg (by simp), wadd1 hi (by simp only [ML]; omega), w64 (by omega) (by omega)]
      exact ⟨_, k - 1, rfl, by omega, i + 1, rfl, by omega, by dsimp only; omega, by dsimp only; omega, by dsimp only; omega⟩) l.length FU ((0 : Int), (0 : Int)) ⟨0, rfl, by omega, by simp, by omega, by omega⟩ (by simp only [FU]; omega)
  rw [h1, h2]
theorem plain_MatchSums (m : A72) (o : A7) : m_law31_MatchSums FU m o = some true := by
  unfold m_law31_MatchSums
  have own : m_law31_Own FU (⟨(⟨(⟨m.e0.e0.fNum, m.e0.e0.fDen⟩ : SRatio), (⟨m.e0.e1.fNum, m.e0.e1.fDen⟩ : SRatio), (⟨m.e0.e2.fNum, m.e0.e2.fDen⟩ : SRatio)⟩ : A3), (⟨(⟨m.e1.e0.fNum, m.e1.e0.fDen⟩ : SRatio), (⟨m.e1.e1.fNum, m.e1.e1.fDen⟩ : SRatio), (⟨m.e1.e2.fNum, m.e1.e2.fDen⟩ : SRatio)⟩ : A3), (⟨(⟨m.e2.e0.fNum, m.e2.e0.fDen⟩ : SRatio), (⟨m.e2.e1.fNum, m.e2.e1.fDen⟩ : SRatio), (⟨m.e2.e2.fNum, m.e2.e2.fDen⟩ : SRatio)⟩ : A3), (⟨(⟨m.e3.e0.fNum, m.e3.e0.fDen⟩ : SRatio), (⟨m.e3.e1.fNum, m.e3.e1.fDen⟩ : SRatio), (⟨m.e3.e2.fNum, m.e3.e2.fDen⟩ : SRatio)⟩ : A3), (⟨(⟨m.e4.e0.fNum, m.e4.e0.fDen⟩ : SRatio), (⟨m.e4.e1.fNum, m.e4.e1.fDen⟩ : SRatio), (⟨m.e4.e2.fNum, m.e4.e2.fDen⟩ : SRatio)⟩ : A3), (⟨(⟨m.e5.e0.fNum, m.e5.e0.fDen⟩ : SRatio), (⟨m.e5.e1.fNum, m.e5.e1.fDen⟩ : SRatio), (⟨m.e5.e2.fNum, m.e5.e2.fDen⟩ : SRatio)⟩ : A3), (⟨(⟨m.e6.e0.fNum, m.e6.e0.fDen⟩ : SRatio), (⟨m.e6.e1.fNum, m.e6.e1.fDen⟩ : SRatio), (⟨m.e6.e2.fNum, m.e6.e2.fDen⟩ : SRatio)⟩ : A3)⟩ : A72) = some m := own_ok m
  have val : m_ref31_Valid FU (⟨(⟨(⟨m.e0.e0.fNum, m.e0.e0.fDen⟩ : SRatio), (⟨m.e0.e1.fNum, m.e0.e1.fDen⟩ : SRatio), (⟨m.e0.e2.fNum, m.e0.e2.fDen⟩ : SRatio)⟩ : A3), (⟨(⟨m.e1.e0.fNum, m.e1.e0.fDen⟩ : SRatio), (⟨m.e1.e1.fNum, m.e1.e1.fDen⟩ : SRatio), (⟨m.e1.e2.fNum, m.e1.e2.fDen⟩ : SRatio)⟩ : A3), (⟨(⟨m.e2.e0.fNum, m.e2.e0.fDen⟩ : SRatio), (⟨m.e2.e1.fNum, m.e2.e1.fDen⟩ : SRatio), (⟨m.e2.e2.fNum, m.e2.e2.fDen⟩ : SRatio)⟩ : A3), (⟨(⟨m.e3.e0.fNum, m.e3.e0.fDen⟩ : SRatio), (⟨m.e3.e1.fNum, m.e3.e1.fDen⟩ : SRatio), (⟨m.e3.e2.fNum, m.e3.e2.fDen⟩ : SRatio)⟩ : A3), (⟨(⟨m.e4.e0.fNum, m.e4.e0.fDen⟩ : SRatio), (⟨m.e4.e1.fNum, m.e4.e1.fDen⟩ : SRatio), (⟨m.e4.e2.fNum, m.e4.e2.fDen⟩ : SRatio)⟩ : A3), (⟨(⟨m.e5.e0.fNum, m.e5.e0.fDen⟩ : SRatio), (⟨m.e5.e1.fNum, m.e5.e1.fDen⟩ : SRatio), (⟨m.e5.e2.fNum, m.e5.e2.fDen⟩ : SRatio)⟩ : A3), (⟨(⟨m.e6.e0.fNum, m.e6.e0.fDen⟩ : SRatio), (⟨m.e6.e1.fNum, m.e6.e1.fDen⟩ : SRatio), (⟨m.e6.e2.fNum, m.e6.e2.fDen⟩ : SRatio)⟩ : A3)⟩ : A72) = some (mvl m) := refvalid_ok m
  rw [awake31, Option.bind_some, own, val]
  simp only [Bool.not_true, Bool.not_false, if_true, Option.bind_some, Bool.false_or]
  cases hm : mvl m with
  | false => simp
  | true =>
    obtain ⟨t, h1, h2⟩ := sums_L1 o
    rw [h1]
    simp only [Bool.not_true, Bool.false_eq_true, if_false, Option.bind_some]
    rw [show m_match_Factors FU m (⟨t.e0, t.e1, t.e2, t.e3, t.e4, t.e5, t.e6⟩ : A7) = _ from factors_ok m t, show m_match_Weight FU m (⟨t.e0, t.e1, t.e2, t.e3, t.e4, t.e5, t.e6⟩ : A7) = _ from weight_ok m t, hm, h2]
    have hv := fac_ovl hm h2
    have hs := wt_sums hv
    have hl := fac_len m t
    have hw := (wt_ok hv).2.2
    have hq := wsum_le hv
    simp only [Bool.and_self, if_true, Option.bind_some, decide_true, Bool.not_true, Bool.or_self, Bool.false_eq_true, if_false]
    rw [sums_L2 hv]
    simp only [Option.bind_some]
    rw [w64 (by omega) (by omega), w64 (by omega) (by omega)]
    simp only [hs.1, hs.2, decide_true, Bool.and_self]
end Go.Proofs.Ytgcmhhcopeiomaa.Ab
