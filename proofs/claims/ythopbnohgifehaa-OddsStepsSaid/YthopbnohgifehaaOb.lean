/- What the functions on odds compute: weights. Conditions: none. -/
import Derived.Test.YthopbnohgifehaaOa
namespace Go.Proofs.Ythopbnohgifehaa.Ab
open Go

/-- The greatest w for which 2^w times the second number is at most the first one. -/
def isW (num den : Nat) (w : Int) : Prop := ∃ p q : Nat, w = (p : Int) - q ∧ den * 2 ^ p ≤ num * 2 ^ q ∧ num * 2 ^ q < 2 * (den * 2 ^ p)
theorem isW_mono {n1 d1 n2 d2 : Nat} {w1 w2 : Int} (h1 : isW n1 d1 w1) (h2 : isW n2 d2 w2) (hd2 : 0 < d2) (h : n1 * d2 ≤ n2 * d1) : w1 ≤ w2 := by
  obtain ⟨p, q, rfl, a1, a2⟩ := h1
  obtain ⟨p', q', rfl, b1, b2⟩ := h2
  refine Int.not_lt.1 fun hc => ?_
  have hc' : p' + 1 + q ≤ p + q' := by omega
  -- d1 2^p ≤ n1 2^q, n2 2^q' < d2 2^(p'+1)
  have c1 : (d1 * 2 ^ p) * (d2 * 2 ^ q') ≤ (n1 * 2 ^ q) * (d2 * 2 ^ q') := Nat.mul_le_mul_right _ a1
  have hn1 : 0 < d1 ∨ d1 = 0 := by omega
  have c2 : (n1 * d2) * (2 ^ q * 2 ^ q') ≤ (n2 * d1) * (2 ^ q * 2 ^ q') := Nat.mul_le_mul_right _ h
  rcases hn1 with hd1 | hd1
  · have c3 : (n2 * 2 ^ q') * (d1 * 2 ^ q) < 2 * (d2 * 2 ^ p') * (d1 * 2 ^ q) := Nat.mul_lt_mul_of_pos_right b2 (Nat.mul_pos hd1 (Nat.pow_pos (by decide)))
    have c4 : 2 ^ (p' + 1 + q) ≤ 2 ^ (p + q') := Nat.pow_le_pow_right (by decide) hc'
    have c5 : (d1 * d2) * 2 ^ (p' + 1 + q) ≤ (d1 * d2) * 2 ^ (p + q') := Nat.mul_le_mul_left _ c4
    rw [Nat.pow_add, Nat.pow_add, Nat.pow_add] at c5
    generalize 2 ^ p = P at *
    generalize 2 ^ q = Q at *
    generalize 2 ^ p' = P' at *
    generalize 2 ^ q' = Q' at *
    have e1 : d1 * P * (d2 * Q') = d1 * d2 * (P * Q') := by grind
    have e2 : n1 * Q * (d2 * Q') = n1 * d2 * (Q * Q') := by grind
    have e3 : n2 * Q' * (d1 * Q) = n2 * d1 * (Q * Q') := by grind
    have e4 : 2 * (d2 * P') * (d1 * Q) = d1 * d2 * (P' * 2 ^ 1 * Q) := by grind
    omega
  · subst hd1; omega
theorem isW_uniq {n d : Nat} {w1 w2 : Int} (hd : 0 < d) (h1 : isW n d w1) (h2 : isW n d w2) : w1 = w2 := by
  have := isW_mono h1 h2 hd (Nat.le_refl _)
  have := isW_mono h2 h1 hd (Nat.le_refl _)
  omega
theorem isW_scale {n d c : Nat} {w : Int} (hc : 0 < c) : isW (c * n) (c * d) w ↔ isW n d w := by
  constructor
  · rintro ⟨p, q, rfl, a1, a2⟩
    have e1 : c * n * 2 ^ q = c * (n * 2 ^ q) := by grind
    have e2 : c * d * 2 ^ p = c * (d * 2 ^ p) := by grind
    have e3 : 2 * (c * (d * 2 ^ p)) = c * (2 * (d * 2 ^ p)) := by grind
    rw [e1, e2] at a1 a2
    rw [e3] at a2
    exact ⟨p, q, rfl, Nat.le_of_mul_le_mul_left a1 hc, Nat.lt_of_mul_lt_mul_left a2⟩
  · rintro ⟨p, q, rfl, a1, a2⟩
    have e1 : c * n * 2 ^ q = c * (n * 2 ^ q) := by grind
    have e2 : c * d * 2 ^ p = c * (d * 2 ^ p) := by grind
    have e3 : 2 * (c * (d * 2 ^ p)) = c * (2 * (d * 2 ^ p)) := by grind
    refine ⟨p, q, rfl, ?_, ?_⟩
    · rw [e1, e2]; exact Nat.mul_le_mul_left c a1
    · rw [e1, e2, e3]; exact Nat.mul_lt_mul_of_pos_left a2 hc
theorem isW_mul {n1 d1 n2 d2 : Nat} {w1 w2 w : Int} (h1 : isW n1 d1 w1) (h2 : isW n2 d2 w2) (hd1 : 0 < d1) (hd2 : 0 < d2) (h : isW (n1 * n2) (d1 * d2) w) : w = w1 + w2 ∨ w = w1 + w2 + 1 := by
  obtain ⟨p, q, rfl, a1, a2⟩ := h1
  obtain ⟨p', q', rfl, b1, b2⟩ := h2
  have c1 : (d1 * 2 ^ p) * (d2 * 2 ^ p') ≤ (n1 * 2 ^ q) * (n2 * 2 ^ q') := Nat.mul_le_mul a1 b1
  have hp : 0 < d1 * 2 ^ p := Nat.mul_pos hd1 (Nat.pow_pos (by decide))
  have c2 : (n1 * 2 ^ q) * (n2 * 2 ^ q') < 2 * (d1 * 2 ^ p) * (2 * (d2 * 2 ^ p')) := Nat.mul_lt_mul_of_lt_of_le a2 (Nat.le_of_lt b2) (by omega)
  have e1 : d1 * d2 * 2 ^ (p + p') = (d1 * 2 ^ p) * (d2 * 2 ^ p') := by rw [Nat.pow_add]; grind
  have e2 : n1 * n2 * 2 ^ (q + q') = (n1 * 2 ^ q) * (n2 * 2 ^ q') := by rw [Nat.pow_add]; grind
  have e3 : 2 * (d1 * 2 ^ p) * (2 * (d2 * 2 ^ p')) = 4 * ((d1 * 2 ^ p) * (d2 * 2 ^ p')) := by grind
  have hd : 0 < d1 * d2 := Nat.mul_pos hd1 hd2
  by_cases hc : n1 * n2 * 2 ^ (q + q') < 2 * (d1 * d2 * 2 ^ (p + p'))
  · left
    exact isW_uniq hd h ⟨p + p', q + q', by omega, by rw [e1, e2]; exact c1, hc⟩
  · right
    have e4 : d1 * d2 * 2 ^ (p + p' + 1) = 2 * (d1 * d2 * 2 ^ (p + p')) := by rw [Nat.pow_succ]; grind
    exact isW_uniq hd h ⟨p + p' + 1, q + q', by omega, by rw [e4]; omega, by rw [e4]; omega⟩
theorem isW_inv {n d : Nat} {w v : Int} (hn : 0 < n) (h : isW n d w) (h2 : isW d n v) : (d * 2 ^ w.toNat = n * 2 ^ (-w).toNat → v = -w) ∧ (d * 2 ^ w.toNat ≠ n * 2 ^ (-w).toNat → v = -w - 1) := by
  obtain ⟨p, q, rfl, a1, a2⟩ := h
  -- the smaller of both exponents is left out
  have key : d * 2 ^ ((p : Int) - q).toNat = n * 2 ^ (-((p : Int) - q)).toNat ↔ d * 2 ^ p = n * 2 ^ q := by
    obtain ⟨m, h1, h2⟩ : ∃ m : Nat, ((p : Int) - q).toNat + m = p ∧ (-((p : Int) - q)).toNat + m = q := ⟨min p q, by omega, by omega⟩
    have hm : 0 < 2 ^ m := Nat.pow_pos (by decide)
    generalize ((p : Int) - q).toNat = P at *
    generalize (-((p : Int) - q)).toNat = Q at *
    rw [← h1, ← h2, Nat.pow_add, Nat.pow_add, ← Nat.mul_assoc, ← Nat.mul_assoc]
    exact ⟨fun h => by rw [h], fun h => Nat.eq_of_mul_eq_mul_right hm h⟩
  refine ⟨fun he => ?_, fun he => ?_⟩
  · rw [key] at he
    exact isW_uniq hn h2 ⟨q, p, by omega, by omega, by omega⟩
  · rw [Ne, key] at he
    have e4 : d * 2 ^ (p + 1) = 2 * (d * 2 ^ p) := by rw [Nat.pow_succ]; grind
    exact isW_uniq hn h2 ⟨q, p + 1, by omega, by rw [e4]; omega, by rw [e4]; omega⟩
theorem bits_lt {x : Nat} (h : x ≠ 0) : x < 2 ^ bits x ∧ 2 ^ bits x ≤ 2 * x := by
  have h1 : x < 2 ^ bits x := bits_le.1 (Nat.le_refl _)
  have h0 : 0 < bits x := by simp [bits, h]
  have h2 : ¬ bits x ≤ bits x - 1 := by omega
  rw [bits_le] at h2
  refine ⟨h1, ?_⟩
  rw [show bits x = bits x - 1 + 1 by omega, Nat.pow_succ]; omega
/-- From the numbers of binary digits. -/
theorem isW_bits {num den : Nat} (hn : num ≠ 0) (hd : den ≠ 0) (w0 : Int) (hw : w0 = (bits num : Int) - bits den) (p q : Nat) (hp : (p : Int) = max w0 0) (hq : (q : Int) = max (-w0) 0) : isW num den (if num * 2 ^ q < den * 2 ^ p then w0 - 1 else w0) := by
  have h1 := bits_lt hn
  have h2 := bits_lt hd
  have e : bits num + q = bits den + p := by omega
  have e1 : num * 2 ^ q < 2 ^ (bits num + q) := by rw [Nat.pow_add]; exact Nat.mul_lt_mul_of_pos_right h1.1 (Nat.pow_pos (by decide))
  have e2 : 2 ^ (bits num + q) ≤ 2 * (num * 2 ^ q) := by rw [Nat.pow_add, ← Nat.mul_assoc]; exact Nat.mul_le_mul_right _ h1.2
  have e3 : den * 2 ^ p < 2 ^ (bits den + p) := by rw [Nat.pow_add]; exact Nat.mul_lt_mul_of_pos_right h2.1 (Nat.pow_pos (by decide))
  have e4 : 2 ^ (bits den + p) ≤ 2 * (den * 2 ^ p) := by rw [Nat.pow_add, ← Nat.mul_assoc]; exact Nat.mul_le_mul_right _ h2.2
  rw [e] at e1 e2
  split
  · have e5 : num * 2 ^ (q + 1) = 2 * (num * 2 ^ q) := by rw [Nat.pow_succ]; grind
    exact ⟨p, q + 1, by omega, by rw [e5]; omega, by rw [e5]; omega⟩
  · exact ⟨p, q, by omega, by omega, by omega⟩
theorem p2pos (n : Nat) : 0 < 2 ^ n := Nat.pow_pos (by decide)
theorem lim960 : 2 ^ 960 * 2 ^ 960 < LIM := by decide +kernel
theorem shift_lim {x p b : Nat} (hx : x < 2 ^ 960) (hb : b ≤ 960) (hp : p ≤ b) : x * 2 ^ p < LIM := by
  have h1 := p2le (show p ≤ 960 by omega)
  have h2 := Nat.mul_lt_mul_of_lt_of_le hx h1 (p2pos 960)
  exact Nat.lt_trans h2 lim960
theorem p960_lim {x : Nat} (h : x < 2 ^ 960) : x < LIM := by
  have := shift_lim (p := 0) h (Nat.le_refl _) (Nat.zero_le _)
  simpa using this
theorem odds_floor {n num den : Nat} (h1 : num ≠ 0) (h2 : den ≠ 0) (h3 : num < 2 ^ 960) (h4 : den < 2 ^ 960) (hn : 10000 < n) : ∃ w, m_odds_floor n (limbs num) (limbs den) = some w ∧ isW num den w ∧ -960 ≤ w ∧ w ≤ 960 := by
  have b1 : bits num ≤ 960 := bits_le.2 h3
  have b2 : bits den ≤ 960 := bits_le.2 h4
  have p1 : 0 < bits num := by simp [bits, h1]
  have p2 : 0 < bits den := by simp [bits, h2]
  obtain ⟨w0, hw⟩ : ∃ w0 : Int, w0 = (bits num : Int) - bits den := ⟨_, rfl⟩
  obtain ⟨p, hp⟩ : ∃ p : Nat, (p : Int) = max w0 0 := ⟨(max w0 0).toNat, by omega⟩
  obtain ⟨q, hq⟩ : ∃ q : Nat, (q : Int) = max (-w0) 0 := ⟨(max (-w0) 0).toNat, by omega⟩
  have s1 := shift_lim h4 (b := 960) (p := p) (Nat.le_refl _) (by omega)
  have s2 := shift_lim h3 (b := 960) (p := q) (Nat.le_refl _) (by omega)
  have hW := isW_bits h1 h2 w0 hw p q hp hq
  unfold m_odds_floor
  rw [nat_Bits (p960_lim h3) hn, Option.bind_some, nat_Bits (p960_lim h4) hn, Option.bind_some, w64 (by omega) (by omega), ← hw, ← hp, w64 (x := -w0) (by omega) (by omega), ← hq, nat_Shift (p960_lim h4) (by omega) hn, if_pos s1, Option.bind_some, nat_Shift (p960_lim h3) (by omega) hn, if_pos s2, Option.bind_some]
  dsimp only
  rw [nat_Compare s1 s2 hn, Option.bind_some]
  by_cases hc : num * 2 ^ q < den * 2 ^ p
  · rw [if_pos hc] at hW
    simp only [sgn_gt.2 hc, decide_true, if_true, Option.bind_some]
    rw [w64 (by omega) (by omega)]
    exact ⟨_, rfl, hW, by omega, by omega⟩
  · rw [if_neg hc] at hW
    have : ¬ 0 < sgn (den * 2 ^ p) (num * 2 ^ q) := fun h => hc (sgn_gt.1 h)
    simp only [this, decide_false, Bool.false_eq_true, if_false, Option.bind_some]
    exact ⟨_, rfl, hW, by omega, by omega⟩
theorem odds_eighth {n x : Nat} (h : x ≤ BIG) (hn : 10000 < n) : m_odds_eighth n (limbs x) = some (limbs (x ^ 8)) ∧ x ^ 8 < 2 ^ 960 := by
  have h1 : x ^ 8 < 2 ^ 960 := Nat.lt_of_le_of_lt (Nat.pow_le_pow_left h 8) big8
  unfold m_odds_eighth
  have := nat_Power (n := n) (x := x) (m := 8) (Nat.lt_of_le_of_lt h big_lim1) (by decide) hn
  rw [show (8 : Int) = ((8 : Nat) : Int) from rfl, this, if_pos (p960_lim h1)]
  exact ⟨rfl, h1⟩
theorem odds_Weight {n : Nat} {l : List SRatio} (h : ovl l = true) (hn : 10000 < n) : ∃ w, m_odds_Weight n l = some (w, 0) ∧ isW (pn l ^ 8) (pd l ^ 8) w ∧ -960 ≤ w ∧ w ≤ 960 := by
  have hv := ovl_iff.1 h
  have p1 := pn_le h
  have p2 := pd_le h
  have e1 := odds_eighth (n := n) p1.2 hn
  have e2 := odds_eighth (n := n) p2.2 hn
  have z1 : pn l ^ 8 ≠ 0 := Nat.ne_of_gt (Nat.pow_pos p1.1)
  have z2 : pd l ^ 8 ≠ 0 := Nat.ne_of_gt (Nat.pow_pos p2.1)
  obtain ⟨w, q1, q2, q3⟩ := odds_floor (n := n) z1 z2 e1.2 e2.2 hn
  refine ⟨w, ?_, q2, q3⟩
  unfold m_odds_Weight
  rw [odds_Valid (by simp only [ML]; omega) (by omega), h]
  simp only [Option.bind_some, Bool.not_true, Bool.false_eq_true, if_false]
  rw [odds_parts h hn, Option.bind_some]
  dsimp only
  rw [e1.1, Option.bind_some, e2.1, Option.bind_some, q1]; rfl
theorem odds_Compare {n : Nat} {a b : List SRatio} (ha : ovl a = true) (hb : ovl b = true) (hn : 10000 < n) : m_odds_Compare n a b = some (sgn (pn a * pd b) (pn b * pd a), 0) := by
  have va := ovl_iff.1 ha
  have vb := ovl_iff.1 hb
  have a1 := pn_le ha
  have a2 := pd_le ha
  have b1 := pn_le hb
  have b2 := pd_le hb
  have bl := big_lim
  have bl1 := big_lim1
  have m1 : pn a * pd b < LIM := Nat.lt_of_le_of_lt (Nat.mul_le_mul a1.2 b2.2) bl
  have m2 : pn b * pd a < LIM := Nat.lt_of_le_of_lt (Nat.mul_le_mul b1.2 a2.2) bl
  unfold m_odds_Compare
  rw [odds_Valid (by simp only [ML]; omega) (by omega), ha, Option.bind_some, odds_Valid (by simp only [ML]; omega) (by omega), hb]
  simp only [Option.bind_some, Bool.not_true, Bool.not_false, if_true, Bool.or_self, Bool.false_eq_true, if_false]
  rw [odds_parts ha hn, Option.bind_some, odds_parts hb hn, Option.bind_some]
  dsimp only
  rw [odds_times (by omega) (by omega) m1 hn, Option.bind_some, odds_times (by omega) (by omega) m2 hn, Option.bind_some, nat_Compare m1 m2 hn]; rfl
end Go.Proofs.Ythopbnohgifehaa.Ab
