/- Laws on odds: products, sums, orders. Conditions: none. -/
import Derived.Test.YthopbnohgifehaaOd
namespace Go.Proofs.Ythopbnohgifehaa.Ab
open Go

theorem ref28_Same {n : Nat} {a b : List SRatio} (hl : a.length ≤ ML) (hn : a.length < n) : m_ref28_Same n a b = some (decide (a = b)) := by
  unfold m_ref28_Same
  by_cases h : a.length = b.length
  · have e : (a.length : Int) = b.length := by omega
    simp only [e, decide_true, Bool.not_true, Bool.false_eq_true, if_false]
    rcases iter_scan (f := fun s => m_ref28_Same_L1 n a b s) a.length (fun i => !decide (a.getD i default = b.getD i default)) (fun _ => .inl false) (.inr ()) a.length 0 n 0 (by omega) (fun j hj => by
      simp only [m_ref28_Same_L1, show (j : Int) < a.length by omega, decide_true, if_true]
      rw [ix_get default hj, ix_get default (by omega), wadd1 hj hl]
      simp only [Option.bind_some]
      split <;> rfl) (by simp [m_ref28_Same_L1]) hn rfl with ⟨i, _, h2, h3, _, h5⟩ | ⟨h1, h2⟩
    · rw [h5]
      have : a ≠ b := by
        intro hc; subst hc; simp at h3
      simp [this]
    · rw [h2]
      have : a = b := by
        apply List.ext_getElem h
        intro i h3 h4
        have := h1 i (by omega) h3
        simpa [List.getD_eq_getElem?_getD, h3, h4] using this
      simp [this]
  · have : a ≠ b := fun hc => h (hc ▸ rfl)
    simp [this, show ¬ (a.length : Int) = b.length by omega]
theorem plain_OddsProduct {l : List SRatio} (hl : l.length ≤ ML) : m_law28_OddsProduct FU l = some true := by
  unfold m_law28_OddsProduct
  rw [awake28, Option.bind_some]
  by_cases h14 : 14 < l.length
  · simp [show (14 : Int) < l.length by omega]
  · have h1 : ∃ a b e w f, m_odds_Product FU l = some (a, b, e) ∧ m_ref28_Product FU l = some (a, b, e) ∧ m_odds_Weight FU l = some (w, f) ∧ m_ref28_Weight FU l = some (w, f) ∧ a.length ≤ 1000 ∧ b.length ≤ 1000 := by
      cases hv : ovl l with
      | false =>
        obtain ⟨q1, q2, q3, q4⟩ := odds_bad hv hl (fuM hl)
        exact ⟨_, _, _, _, _, q1, q3, q2, q4, by simp, by simp⟩
      | true =>
        obtain ⟨w, hw, hW, _⟩ := odds_Weight hv fu4
        obtain ⟨w', hw', hW'⟩ := ref28_Weight hv fu5
        have := isW_uniq (Nat.pow_pos (pd_le hv).1) hW hW'
        subst this
        obtain ⟨A, B, rA, rB, la, lb, _⟩ := odds_low8 hv
        have q1 := odds_Product hv fu5
        have q2 := ref28_Product hv fu5
        rw [rA, rB] at q1 q2
        have := lim_len.2 la
        have := lim_len.2 lb
        exact ⟨_, _, _, _, _, q1, q2, hw, hw', by omega, by omega⟩
    obtain ⟨a, b, e, w, f, q1, q2, q3, q4, q5, q6⟩ := h1
    simp only [show ¬ (14 : Int) < l.length by omega, decide_false, Bool.not_true, Bool.or_self, Bool.false_eq_true, if_false]
    have hO := law_Own (n := FU) (l := l) (by omega) fu4
    have hs1 : m_ref03_Same FU a a = some true := by rw [ref_Same (by simp only [ML]; omega) (by simp only [FU]; omega)]; simp
    have hs2 : m_ref03_Same FU b b = some true := by rw [ref_Same (by simp only [ML]; omega) (by simp only [FU]; omega)]; simp
    have hs3 : m_ref28_Same FU (l.map swp) (l.map swp) = some true := by rw [ref28_Same (by simp; exact hl) (by simp; exact fuM hl)]; simp
    have hT := law_theirs (n := FU) (l := l.map swp) (by simp; omega) fu4
    simp [hO, q1, q2, q3, q4, hs1, hs2, odds_Valid hl (fuM hl), ref28_Valid hl (fuM hl), odds_Inverse (n := FU) (l := l) (by omega) fu4, ref_Inverse (n := FU) (l := l) (by omega) fu4, hs3, hT]
theorem pn_append (a b : List SRatio) : pn (a ++ b) = pn a * pn b := pr_append _ a b
theorem pd_append (a b : List SRatio) : pd (a ++ b) = pd a * pd b := pr_append _ a b
theorem ovl_append {a b : List SRatio} (ha : ovl a = true) (hb : ovl b = true) (h : a.length + b.length ≤ 12) : ovl (a ++ b) = true := by
  rw [ovl_iff] at *
  refine ⟨by simpa using h, fun r hr => ?_⟩
  rcases List.mem_append.1 hr with hr | hr
  · exact ha.2 r hr
  · exact hb.2 r hr
theorem plain_OddsSums {a b : List SRatio} (la : a.length ≤ ML) (lb : b.length ≤ ML) : m_law28_OddsSums FU a b = some true := by
  unfold m_law28_OddsSums
  rw [awake28, Option.bind_some]
  simp only [Bool.not_true, Bool.not_false, if_true]
  rw [ref28_Valid la (fuM la), Option.bind_some]
  cases ha : ovl a with
  | false => simp
  | true =>
    simp only [Bool.not_true, Bool.or_self, Bool.not_false, if_true]
    rw [ref28_Valid lb (fuM lb), Option.bind_some]
    cases hb : ovl b with
    | false => simp
    | true =>
      have va := ovl_iff.1 ha
      have vb := ovl_iff.1 hb
      rw [w64 (by omega) (by omega)]
      by_cases h12 : 12 < a.length + b.length
      · simp [show (12 : Int) < (a.length : Int) + b.length by omega]
      · simp only [show ¬ (12 : Int) < (a.length : Int) + b.length by omega, decide_false, Bool.not_true, Bool.or_self, Bool.false_eq_true, if_false]
        have hab := ovl_append ha hb (by omega)
        obtain ⟨x, hx, hX, x1, x2⟩ := odds_Weight ha fu4
        obtain ⟨y, hy, hY, y1, y2⟩ := odds_Weight hb fu4
        obtain ⟨z, hz, hZ, z1, z2⟩ := odds_Weight hab fu4
        rw [pn_append, pd_append, Nat.mul_pow, Nat.mul_pow] at hZ
        have key := isW_mul hX hY (Nat.pow_pos (pd_le ha).1) (Nat.pow_pos (pd_le hb).1) hZ
        rw [law_Own (by omega) fu4, Option.bind_some, hx, Option.bind_some, law_Own (by omega) fu4, Option.bind_some, hy, Option.bind_some, Option.bind_some, Option.bind_some, app_some (by decide) (by omega), Option.bind_some, hz, Option.bind_some, w64 (by omega) (by omega), w64 (by omega) (by omega)]
        rcases key with key | key <;> simp [key]
theorem sgn_neg {x y : Nat} : sgn y x = - sgn x y := by
  unfold sgn; split <;> split <;> (try split) <;> (try split) <;> omega
theorem isW_cross {a b c d : Nat} {v w : Int} (h1 : isW (a ^ 8) (b ^ 8) v) (h2 : isW (c ^ 8) (d ^ 8) w) (hd : 0 < d) (h : a * d ≤ c * b) : v ≤ w := by
  refine isW_mono h1 h2 (Nat.pow_pos hd) ?_
  rw [← Nat.mul_pow, ← Nat.mul_pow]
  exact Nat.pow_le_pow_left h 8
theorem isW_up {a b c : Nat} {u v : Int} (hc : 0 < c) (hb : 0 < b) (hU : isW ((c * a) ^ 8) ((c * b) ^ 8) u) (hV : isW (a ^ 8) (b ^ 8) v) : u = v := by
  rw [Nat.mul_pow, Nat.mul_pow] at hU
  exact isW_uniq (Nat.pow_pos hb) ((isW_scale (Nat.pow_pos hc)).1 hU) hV
theorem plain_OddsOrder {a b : List SRatio} {t : Int} (la : a.length ≤ ML) (lb : b.length ≤ ML) (ht : 0 ≤ t ∧ t ≤ 255) : m_law28_OddsOrder FU a b t = some true := by
  unfold m_law28_OddsOrder
  rw [awake28, Option.bind_some]
  simp only [Bool.not_true, Bool.not_false, if_true]
  rw [ref28_Valid la (fuM la), Option.bind_some]
  cases ha : ovl a with
  | false => simp
  | true =>
    simp only [Bool.not_true, Bool.or_self, Bool.not_false, if_true]
    rw [ref28_Valid lb (fuM lb), Option.bind_some]
    cases hb : ovl b with
    | false => simp
    | true =>
      have va := ovl_iff.1 ha
      have vb := ovl_iff.1 hb
      by_cases h10 : 10 < a.length
      · simp [show (10 : Int) < (a.length : Int) by omega]
      · simp only [show ¬ (10 : Int) < (a.length : Int) by omega, decide_false, Bool.not_true, Bool.or_self, Bool.false_eq_true, if_false]
        obtain ⟨v, hv, hV, v1, v2⟩ := odds_Weight ha fu4
        obtain ⟨w, hw, hW, w1, w2⟩ := odds_Weight hb fu4
        have oa := law_Own (n := FU) (l := a) (by omega) fu4
        have ob := law_Own (n := FU) (l := b) (by omega) fu4
        have c1 : pn a * pd b = pn b * pd a → v = w := fun h => Int.le_antisymm (isW_cross hV hW (pd_le hb).1 (by omega)) (isW_cross hW hV (pd_le ha).1 (by omega))
        have c2 : pn b * pd a < pn a * pd b → w ≤ v := fun h => isW_cross hW hV (pd_le ha).1 (by omega)
        rw [oa, Option.bind_some, ob, Option.bind_some, odds_Compare ha hb fu4, Option.bind_some, Option.bind_some, Option.bind_some, odds_Compare hb ha fu4, Option.bind_some, Option.bind_some, hv, Option.bind_some, Option.bind_some, hw, Option.bind_some]
        have hsg : -1 ≤ sgn (pn b * pd a) (pn a * pd b) ∧ sgn (pn b * pd a) (pn a * pd b) ≤ 1 := by
          unfold sgn; split <;> (try split) <;> omega
        have hfirst : ((((((!decide ((sgn (pn a * pd b) (pn b * pd a), (0 : Int)).2 = 0) || !decide ((sgn (pn b * pd a) (pn a * pd b), (0 : Int)).2 = 0)) || !decide ((v, (0 : Int)).2 = 0)) || !decide ((w, (0 : Int)).2 = 0)) || !decide ((sgn (pn a * pd b) (pn b * pd a), (0 : Int)).1 = IntKind.i64.wrap (-(sgn (pn b * pd a) (pn a * pd b), (0 : Int)).1))) ||
            decide ((sgn (pn a * pd b) (pn b * pd a), (0 : Int)).1 = 0) && !decide ((v, (0 : Int)).1 = (w, (0 : Int)).1)) || decide (0 < (sgn (pn a * pd b) (pn b * pd a), (0 : Int)).1) && decide ((v, (0 : Int)).1 < (w, (0 : Int)).1)) = false := by
          dsimp only
          rw [w64 (by omega) (by omega), sgn_neg (x := pn b * pd a)]
          rcases Nat.lt_trichotomy (pn a * pd b) (pn b * pd a) with h | h | h
          · have e : sgn (pn b * pd a) (pn a * pd b) = 1 := by simp [sgn, show ¬ pn b * pd a < pn a * pd b by omega, show ¬ pn b * pd a = pn a * pd b by omega]
            simp [e]
          · have e : sgn (pn b * pd a) (pn a * pd b) = 0 := sgn_eq.2 h.symm
            simp [e, c1 h]
          · have e : sgn (pn b * pd a) (pn a * pd b) = -1 := by simp [sgn, h]
            have := c2 h
            simp [e]; omega
        rw [hfirst]
        simp only [Bool.false_eq_true, if_false]
        obtain ⟨k, hk, hkl⟩ : ∃ k : Nat, (if decide (0 < (a.length : Int)) = true then (rem (IntKind.i64.wrap t) (a.length : Int)).bind fun v18 => some v18 else some 0) = some (k : Int) ∧ k ≤ a.length := by
          by_cases h0 : 0 < a.length
          · simp only [show (0 : Int) < a.length by omega, decide_true, if_true]
            rw [w64 (by omega) (by omega), remN ht.1 (by omega)]
            have := Int.emod_nonneg t (show (a.length : Int) ≠ 0 by omega)
            have := Int.emod_lt_of_pos t (show 0 < (a.length : Int) by omega)
            exact ⟨(t % a.length).toNat, by rw [Option.bind_some, Int.toNat_of_nonneg (by omega)], by omega⟩
          · exact ⟨0, by simp [show ¬ 0 < a.length by omega], by omega⟩
        rw [hk, Option.bind_some, slc_some (by omega) (by omega) (by omega), Option.bind_some]
        simp only [Int.toNat_natCast, List.take_length]
        rw [law_Own (by simp; omega) fu4, Option.bind_some, slc_some (by omega) (by omega) (by omega), Option.bind_some]
        simp only [Int.toNat_natCast, Int.toNat_zero, List.drop_zero]
        rw [law_Own (by simp; omega) fu4, Option.bind_some, app_some (by decide) (by simp; omega), Option.bind_some, w64 (x := t) (by omega) (by omega), w64 (by omega) (by omega), app_some (by decide) (by simp; omega), Option.bind_some, app_some (by decide) (by simp; omega), Option.bind_some, Option.bind_some]
        generalize hM : [(⟨1 + t, 7⟩ : SRatio)] ++ (a.drop k ++ a.take k) ++ [(⟨7, 1 + t⟩ : SRatio)] = M
        have r1 : ovl [(⟨1 + t, 7⟩ : SRatio)] = true := by rw [ovl_iff]; simp; omega
        have r2 : ovl [(⟨7, 1 + t⟩ : SRatio)] = true := by rw [ovl_iff]; simp; omega
        have hdt := ovl_append (ovl_drop ha k) (ovl_take ha k) (by simp; omega)
        have hMv : ovl M = true := by
          rw [← hM]
          exact ovl_append (ovl_append r1 hdt (by simp; omega)) r2 (by simp; omega)
        have split1 : pn a = pn (a.take k) * pn (a.drop k) := by rw [← pn_append, List.take_append_drop]
        have split2 : pd a = pd (a.take k) * pd (a.drop k) := by rw [← pd_append, List.take_append_drop]
        have e1 : pn M = 7 * (1 + t).toNat * pn a := by
          rw [← hM, pn_append, pn_append, pn_append, split1]; simp only [pr]
          show (1 + t).toNat * 1 * (pn (a.drop k) * pn (a.take k)) * (7 * 1) = _
          grind
        have e2 : pd M = 7 * (1 + t).toNat * pd a := by
          rw [← hM, pd_append, pd_append, pd_append, split2]; simp only [pr]
          show 7 * 1 * (pd (a.drop k) * pd (a.take k)) * ((1 + t).toNat * 1) = _
          grind
        obtain ⟨u, hu, hU, u1, u2⟩ := odds_Weight hMv fu4
        have hcp : 0 < 7 * (1 + t).toNat := by omega
        have hUv : u = v := isW_up hcp (pd_le ha).1 (e1 ▸ e2 ▸ hU) hV
        rw [odds_Compare ha hMv fu4, Option.bind_some, hu, Option.bind_some]
        have hz : sgn (pn a * pd M) (pn M * pd a) = 0 := sgn_eq.2 (by rw [e1, e2]; grind)
        simp [hz, hUv]
end Go.Proofs.Ythopbnohgifehaa.Ab
