/- Laws on odds: the least factor with a weight. Conditions: none. -/
import Derived.Test.YthopbnohgifehaaOe
namespace Go.Proofs.Ythopbnohgifehaa.Ab
open Go

noncomputable def W (n d : Nat) : Int := Classical.epsilon (isW (n ^ 8) (d ^ 8))
theorem W_spec {n d : Nat} (hn : 0 < n) (hd : 0 < d) : isW (n ^ 8) (d ^ 8) (W n d) := by
  refine Classical.epsilon_spec (p := isW (n ^ 8) (d ^ 8)) ?_
  exact ⟨_, isW_bits (Nat.ne_of_gt (Nat.pow_pos hn)) (Nat.ne_of_gt (Nat.pow_pos hd)) _ rfl _ _ (show ((max ((bits (n ^ 8) : Int) - bits (d ^ 8)) 0).toNat : Int) = _ by omega) (show ((max (-((bits (n ^ 8) : Int) - bits (d ^ 8))) 0).toNat : Int) = _ by omega)⟩
theorem W_eq {n d : Nat} {w : Int} (hn : 0 < n) (hd : 0 < d) (h : isW (n ^ 8) (d ^ 8) w) : w = W n d := isW_uniq (Nat.pow_pos hd) h (W_spec hn hd)
theorem W_mono {n m d : Nat} (hn : 0 < n) (hd : 0 < d) (h : n ≤ m) : W n d ≤ W m d :=
  isW_cross (W_spec hn hd) (W_spec (by omega) hd) hd (Nat.mul_le_mul_right d h)
theorem weight_Of {n x d : Nat} (hx : 0 < x) (hx2 : x ≤ 1000) (hd : 0 < d) (hd2 : d ≤ 1000) (hn : 10000 < n) : m_odds_Of_1 n (x : Int) (limbs (d ^ 8)) = some (W x d) := by
  have e1 := odds_eighth (n := n) (x := x) (Nat.le_trans hx2 (by decide)) hn
  have e2 := odds_eighth (n := n) (x := d) (Nat.le_trans hd2 (by decide)) hn
  obtain ⟨w, q1, q2, _⟩ := odds_floor (n := n) (Nat.ne_of_gt (Nat.pow_pos hx)) (Nat.ne_of_gt (Nat.pow_pos hd)) e1.2 e2.2 hn
  unfold m_odds_Of_1
  rw [odds_number (by omega) (by omega) (by omega), Option.bind_some, Int.toNat_natCast, e1.1, Option.bind_some, q1, W_eq hx hd q2]; rfl
theorem one_ok {x d : Nat} (hx : 0 < x) (hx2 : x ≤ 1000) (hd : 0 < d) (hd2 : d ≤ 1000) : ovl [(⟨x, d⟩ : SRatio)] = true := by
  rw [ovl_iff]; simp; omega
theorem W_one {x d : Nat} : pn [(⟨x, d⟩ : SRatio)] = x ∧ pd [(⟨x, d⟩ : SRatio)] = d := by simp [pr]
theorem weight_ref {n x d : Nat} (hx : 0 < x) (hx2 : x ≤ 1000) (hd : 0 < d) (hd2 : d ≤ 1000) (hn : 100000 < n) : m_ref28_Weight n [(⟨x, d⟩ : SRatio)] = some (W x d, 0) := by
  obtain ⟨w, q1, q2⟩ := ref28_Weight (n := n) (one_ok hx hx2 hd hd2) hn
  rw [W_one.1, W_one.2] at q2
  rw [q1, W_eq hx hd q2]
theorem weight_odds {n x d : Nat} (hx : 0 < x) (hx2 : x ≤ 1000) (hd : 0 < d) (hd2 : d ≤ 1000) (hn : 10000 < n) : m_odds_Weight n [(⟨x, d⟩ : SRatio)] = some (W x d, 0) := by
  obtain ⟨w, q1, q2, _⟩ := odds_Weight (n := n) (one_ok hx hx2 hd hd2) hn
  rw [W_one.1, W_one.2] at q2
  rw [q1, W_eq hx hd q2]
/-- The least numerator whose weight is not less. -/
def Least (w : Int) (d h : Nat) : Prop := 1 ≤ h ∧ h ≤ 1001 ∧ (h ≤ 1000 → w ≤ W h d) ∧ ∀ k, 1 ≤ k → k < h → W k d < w
theorem Least.uniq {w : Int} {d h h' : Nat} (a : Least w d h) (b : Least w d h') : h = h' := by
  obtain ⟨a1, a2, a3, a4⟩ := a
  obtain ⟨b1, b2, b3, b4⟩ := b
  rcases Nat.lt_trichotomy h h' with hh | hh | hh
  · have := b4 h a1 hh; have := a3 (by omega); omega
  · exact hh
  · have := a4 h' b1 hh; have := b3 (by omega); omega
theorem search_Of {n d : Nat} {w : Int} (hd : 0 < d) (hd2 : d ≤ 1000) (hn : 10000 < n) : ∃ h : Nat, iter n (fun s => m_odds_Of_L2 n w (limbs (d ^ 8)) s.1 s.2) (0, 1001) = some (h : Int) ∧ Least w d h := by
  obtain ⟨t, h1, q, h2, h3⟩ := iter_inv (σ := Int × Int) (f := fun s => m_odds_Of_L2 n w (limbs (d ^ 8)) s.1 s.2)
    (I := fun k s => ∃ lo hi : Nat, s = ((lo : Int), (hi : Int)) ∧ lo + k = hi ∧ 0 < k ∧ hi ≤ 1001 ∧ (hi ≤ 1000 → w ≤ W hi d) ∧ (1 ≤ lo → W lo d < w))
    (Q := fun t => ∃ h : Nat, t = h ∧ Least w d h) (by
      rintro k s ⟨lo, hi, rfl, h1, h0, h2, h3, h4⟩
      simp only [m_odds_Of_L2]
      by_cases hk : k = 1
      · right
        refine ⟨hi, ?_, hi, rfl, by omega, h2, h3, fun j j1 j2 => ?_⟩
        · rw [w64 (by omega) (by omega)]
          simp [show ¬ (1 : Int) < (hi : Int) - lo by omega]
        · have := W_mono j1 hd (show j ≤ lo by omega)
          have := h4 (by omega); omega
      · left
        have e1 : (1 : Int) < (hi : Int) - lo := by omega
        have e2 : ((lo : Int) + hi) / 2 = (((lo + hi) / 2 : Nat) : Int) := by omega
        simp (disch := omega) only [w64, e1, decide_true, if_true, quoN, Option.bind_some, e2]
        generalize hm : (lo + hi) / 2 = m
        rw [weight_Of (by omega) (by omega) hd hd2 hn, Option.bind_some]
        by_cases hc : W m d < w
        · simp only [hc, decide_true, if_true]
          exact ⟨_, hi - m, rfl, by omega, m, hi, rfl, by omega, by omega, h2, h3, fun _ => hc⟩
        · simp only [hc, decide_false, Bool.false_eq_true, if_false]
          exact ⟨_, m - lo, rfl, by omega, lo, m, rfl, by omega, by omega, by omega, fun _ => by omega, h4⟩) 1001 n (0, 1001) ⟨0, 1001, rfl, rfl, by decide, by decide, by omega, by omega⟩ (by omega)
  exact ⟨q, by rw [h1, h2], h3⟩
theorem search_ref {n d : Nat} {w : Int} (hd : 0 < d) (hd2 : d ≤ 1000) (hn : 100000 < n) : ∃ h : Nat, iter n (fun s => m_ref28_Of_L2 n w (d : Int) s.1 s.2) (1, 1001) = some (h : Int) ∧ Least w d h := by
  obtain ⟨t, h1, q, h2, h3⟩ := iter_inv (σ := Int × Int) (f := fun s => m_ref28_Of_L2 n w (d : Int) s.1 s.2)
    (I := fun k s => ∃ lo hi : Nat, s = ((lo : Int), (hi : Int)) ∧ lo + k = hi ∧ 1 ≤ lo ∧ hi ≤ 1001 ∧ (hi ≤ 1000 → w ≤ W hi d) ∧ (∀ j, 1 ≤ j → j < lo → W j d < w))
    (Q := fun t => ∃ h : Nat, t = h ∧ Least w d h) (by
      rintro k s ⟨lo, hi, rfl, h1, h0, h2, h3, h4⟩
      simp only [m_ref28_Of_L2]
      by_cases hk : k = 0
      · right
        refine ⟨lo, ?_, lo, rfl, h0, by omega, fun hle => ?_, h4⟩
        · simp [show ¬ lo < hi by omega]
        · rw [show lo = hi by omega] at hle ⊢; exact h3 hle
      · left
        have e1 : (lo : Int) < (hi : Int) := by omega
        have e2 : ((lo : Int) + hi) / 2 = (((lo + hi) / 2 : Nat) : Int) := by omega
        simp (disch := omega) only [w64, e1, decide_true, if_true, quoN, Option.bind_some, e2]
        generalize hm : (lo + hi) / 2 = m
        rw [weight_ref (by omega) (by omega) hd hd2 hn, Option.bind_some]
        by_cases hc : w ≤ W m d
        · simp only [hc, decide_true, if_true]
          exact ⟨_, m - lo, rfl, by omega, lo, m, rfl, by omega, h0, by omega, fun _ => hc, h4⟩
        · simp only [hc, decide_false, Bool.false_eq_true, if_false]
          refine ⟨_, hi - (m + 1), rfl, by omega, m + 1, hi, rfl, by omega, by omega, h2, h3, fun j j1 j2 => ?_⟩
          have := W_mono j1 hd (show j ≤ m by omega)
          omega) 1000 n (1, 1001) ⟨1, 1001, rfl, rfl, by decide, by decide, by omega, fun j j1 j2 => by omega⟩ (by omega)
  exact ⟨q, by rw [h1, h2], h3⟩
noncomputable def hh (w : Int) (d : Nat) : Nat := Classical.epsilon (Least w d)
theorem hh_spec {w : Int} {d : Nat} (hd : 0 < d) (hd2 : d ≤ 1000) : Least w d (hh w d) := by
  obtain ⟨h, _, hL⟩ := search_Of (n := FU) (w := w) hd hd2 fu4
  exact Classical.epsilon_spec ⟨h, hL⟩
open Classical in
/-- Whether a factor with the denominator has the weight. -/
noncomputable def hit (w : Int) (d : Nat) : Bool := decide (hh w d ≤ 1000 ∧ W (hh w d) d = w)
theorem iter_scanB {ρ : Type} {f : Int → Option (Int ⊕ ρ)} (a m : Nat) (bad : Nat → Bool) (tb : Nat → ρ) (te : ρ) : ∀ (k j n : Nat) (s0 : Int), a ≤ j → j + k = m →
    (∀ j, a ≤ j → j < m → f (j : Int) = some (if bad j = true then .inr (tb j) else .inl ((j + 1 : Nat) : Int))) → f (m : Int) = some (.inr te) → k < n → s0 = (j : Int) →
    (∃ i, j ≤ i ∧ i < m ∧ bad i = true ∧ (∀ h, j ≤ h → h < i → bad h = false) ∧ iter n f s0 = some (tb i)) ∨ ((∀ i, j ≤ i → i < m → bad i = false) ∧ iter n f s0 = some te)
  | 0, j, n + 1, s0, _, hjk, _, he, _, h0 => by
    obtain rfl : j = m := by omega
    subst h0; exact .inr ⟨fun i h1 h2 => by omega, by simp [iter, he]⟩
  | k + 1, j, n + 1, s0, ha, hjk, hf, he, hn, h0 => by
    subst h0
    rw [iter, hf j ha (by omega)]
    cases hb : bad j with
    | true => exact .inl ⟨j, by omega, by omega, hb, fun h h1 h2 => by omega, rfl⟩
    | false =>
      rcases iter_scanB a m bad tb te k (j + 1) n _ (by omega) (by omega) hf he (by omega) rfl with ⟨i, h1, h2, h3, h4, h5⟩ | ⟨h1, h2⟩
      · exact .inl ⟨i, by omega, h2, h3, fun h q1 q2 => if hh : h = j then hh ▸ hb else h4 h (by omega) q2, h5⟩
      · exact .inr ⟨fun i q1 q2 => if hh : i = j then hh ▸ hb else h1 i (by omega) q2, h2⟩
  | k, j, 0, s0, _, _, _, _, hn, _ => by omega
theorem hit_iff {w : Int} {d : Nat} : hit w d = true ↔ hh w d ≤ 1000 ∧ W (hh w d) d = w := by simp [hit]
theorem round_Of {n : Nat} {w : Int} (hn : 10000 < n) {d : Nat} (h1 : 1 ≤ d) (h2 : d ≤ 1000) : m_odds_Of_L1 n w (d : Int) = some (if hit w d = true then .inr (.inl ((⟨(hh w d : Nat), (d : Int)⟩ : SRatio), (0 : Int))) else .inl ((d + 1 : Nat) : Int)) := by
  have e2 := odds_eighth (n := n) (x := d) (Nat.le_trans h2 (by decide)) hn
  obtain ⟨h, q1, q2⟩ := search_Of (n := n) (w := w) h1 h2 hn
  have := q2.uniq (hh_spec (w := w) h1 h2)
  subst this
  unfold m_odds_Of_L1
  simp only [show (d : Int) ≤ 1000 by omega, decide_true, if_true]
  rw [odds_number (by omega) (by omega) (by omega), Option.bind_some, Int.toNat_natCast, e2.1, Option.bind_some, q1, Option.bind_some, w64 (by omega) (by omega)]
  by_cases hl : hh w d ≤ 1000
  · have h0 := q2.1
    simp only [show ((hh w d : Nat) : Int) ≤ 1000 by omega, decide_true, if_true]
    rw [weight_Of h0 hl h1 h2 hn, Option.bind_some]
    by_cases hw : W (hh w d) d = w
    · simp [hit_iff.2 ⟨hl, hw⟩, hw]
    · have : hit w d = false := by rw [Bool.eq_false_iff]; exact fun h => hw (hit_iff.1 h).2
      simp [this, hw]
  · have : hit w d = false := by rw [Bool.eq_false_iff]; exact fun h => hl (hit_iff.1 h).1
    simp [this, show ¬ ((hh w d : Nat) : Int) ≤ 1000 by omega]
theorem round_ref {n : Nat} {w : Int} (hn : 100000 < n) {d : Nat} (h1 : 1 ≤ d) (h2 : d ≤ 1000) : m_ref28_Of_L1 n w (d : Int) = some (if hit w d = true then .inr (.inl ((⟨(hh w d : Nat), (d : Int)⟩ : SRatio), (0 : Int))) else .inl ((d + 1 : Nat) : Int)) := by
  obtain ⟨h, q1, q2⟩ := search_ref (n := n) (w := w) h1 h2 hn
  have := q2.uniq (hh_spec (w := w) h1 h2)
  subst this
  unfold m_ref28_Of_L1
  simp only [show (d : Int) ≤ 1000 by omega, decide_true, if_true]
  rw [q1, Option.bind_some, w64 (by omega) (by omega)]
  by_cases hl : hh w d ≤ 1000
  · have h0 := q2.1
    simp only [show ¬ 1000 < ((hh w d : Nat) : Int) by omega, decide_false, Bool.false_eq_true, if_false]
    rw [weight_ref h0 hl h1 h2 hn, Option.bind_some]
    by_cases hw : W (hh w d) d = w
    · simp [hit_iff.2 ⟨hl, hw⟩, hw]
    · have : hit w d = false := by rw [Bool.eq_false_iff]; exact fun h => hw (hit_iff.1 h).2
      simp [this, hw]
  · have : hit w d = false := by rw [Bool.eq_false_iff]; exact fun h => hl (hit_iff.1 h).1
    simp [this, show (1000 : Int) < ((hh w d : Nat) : Int) by omega]
theorem plain_OddsSteps {w num : Int} (hw : -9223372036854775808 ≤ w ∧ w ≤ 9223372036854775807) (hnum : 0 ≤ num ∧ num ≤ 65535) : m_law28_OddsSteps FU w num = some true := by
  unfold m_law28_OddsSteps
  rw [awake28, Option.bind_some]
  simp only [Bool.not_true, Bool.false_eq_true, if_false]
  by_cases hr : w < -79 ∨ 79 < w
  · have e1 : m_odds_Of FU w = some (⟨0, 0⟩, 2) := by
      unfold m_odds_Of
      rw [if_pos (by simpa using hr)]
    have e2 : m_ref28_Of FU w = some (⟨0, 0⟩, 2) := by
      unfold m_ref28_Of
      rw [if_pos (by simpa using hr)]
    simp [e1, e2]
  · have hr' : ¬ (decide (w < -79) || decide (79 < w)) = true := by simpa using hr
    have s1 := iter_scanB (f := fun s => m_odds_Of_L1 FU w s) 1 1001 (hit w) (fun d => .inl ((⟨(hh w d : Nat), (d : Int)⟩ : SRatio), (0 : Int))) (.inr ()) 1000 1 FU 1 (by decide) (by decide) (fun d h1 h2 => by
      rw [round_Of fu4 h1 (by omega)]) (by simp [m_odds_Of_L1]) (by decide) rfl
    have s2 := iter_scanB (f := fun s => m_ref28_Of_L1 FU w s) 1 1001 (hit w) (fun d => .inl ((⟨(hh w d : Nat), (d : Int)⟩ : SRatio), (0 : Int))) (.inr ()) 1000 1 FU 1 (by decide) (by decide) (fun d h1 h2 => by
      rw [round_ref fu5 h1 (by omega)]) (by simp [m_ref28_Of_L1]) (by decide) rfl
    rcases s1 with ⟨i, i1, i2, i3, i4, i5⟩ | ⟨a1, a2⟩
    · rcases s2 with ⟨j, j1, j2, j3, j4, j5⟩ | ⟨b1, _⟩
      · have hij : i = j := by
          rcases Nat.lt_trichotomy i j with h | h | h
          · have := j4 i i1 h; rw [i3] at this; cases this
          · exact h
          · have := i4 j j1 h; rw [j3] at this; cases this
        subst hij
        have e1 : m_odds_Of FU w = some (⟨(hh w i : Nat), (i : Int)⟩, 0) := by
          unfold m_odds_Of
          rw [if_neg hr', i5]; rfl
        have e2 : m_ref28_Of FU w = some (⟨(hh w i : Nat), (i : Int)⟩, 0) := by
          unfold m_ref28_Of
          rw [if_neg hr', j5]; rfl
        obtain ⟨k1, k2⟩ := hit_iff.1 i3
        have hL := hh_spec (w := w) (d := i) (by omega) (by omega)
        rw [e1, Option.bind_some, e2, Option.bind_some]
        simp only [decide_true, Bool.not_true, Bool.or_self, Bool.false_eq_true, if_false]
        rw [weight_odds hL.1 k1 (by omega) (by omega) fu4, Option.bind_some]
        simp only [k2, decide_true, Bool.not_true, Bool.or_self, Bool.false_eq_true, if_false]
        have s3 := iter_scanB (f := fun s => m_law28_OddsSteps_L1 FU w num ((⟨(hh w i : Nat), (i : Int)⟩ : SRatio), 0) s) 1 i (fun _ => false) (fun _ => .inl false) (.inr ()) (i - 1) 1 FU 1 (by decide) (by omega) (fun d h1 h2 => by
          unfold m_law28_OddsSteps_L1
          simp only [show (d : Int) < (i : Int) by omega, decide_true, if_true]
          obtain ⟨x, hx⟩ : ∃ x : Nat, (1 + num % 1000 : Int) = x := ⟨(1 + num % 1000).toNat, by omega⟩
          rw [w64 (x := num) (by omega) (by omega), remN hnum.1 (by decide), Option.bind_some, w64 (by omega) (by omega), hx, weight_odds (by omega) (by omega) h1 (by omega) fu4, Option.bind_some, w64 (by omega) (by omega)]
          have hno : ¬ W x d = w := by
            intro hc
            have hf := i4 d h1 h2
            rw [Bool.eq_false_iff] at hf
            refine hf (hit_iff.2 ?_)
            have hLd := hh_spec (w := w) (d := d) (by omega) (by omega)
            have hle : hh w d ≤ x := by
              refine Nat.le_of_not_lt fun hlt => ?_
              have := hLd.2.2.2 x (by omega) hlt
              omega
            have h3 := hLd.2.2.1 (by omega)
            have h4 := W_mono hLd.1 (show 0 < d by omega) hle
            exact ⟨by omega, by omega⟩
          simp [hno]) (by simp [m_law28_OddsSteps_L1]) (by simp only [FU]; omega) rfl
        rcases s3 with ⟨_, _, _, h, _⟩ | ⟨_, h⟩
        · cases h
        · rw [h]; rfl
      · have := b1 i i1 i2; rw [i3] at this; cases this
    · rcases s2 with ⟨j, j1, j2, j3, j4, j5⟩ | ⟨b1, b2⟩
      · have := a1 j j1 j2; rw [j3] at this; cases this
      · have e1 : m_odds_Of FU w = some (⟨0, 0⟩, 9) := by
          unfold m_odds_Of
          rw [if_neg hr', a2]; rfl
        have e2 : m_ref28_Of FU w = some (⟨0, 0⟩, 9) := by
          unfold m_ref28_Of
          rw [if_neg hr', b2]; rfl
        simp [e1, e2]
end Go.Proofs.Ythopbnohgifehaa.Ab
