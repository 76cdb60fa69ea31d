/- Laws on odds. Conditions: none. -/
import Derived.Test.YthopbnohgifehaaOc
import Derived.Test.YthopbnohgifehaaOk
namespace Go.Proofs.Ythopbnohgifehaa.Ab
open Go

theorem u8_ok {x : Int} (h : (Lit.int .u8 x).wf = true) : 0 ≤ x ∧ x ≤ 255 := by
  simp [Lit.wf, IntKind.min, IntKind.max, IntKind.signed, IntKind.bits] at h; omega
theorem u16_ok {x : Int} (h : (Lit.int .u16 x).wf = true) : 0 ≤ x ∧ x ≤ 65535 := by
  simp [Lit.wf, IntKind.min, IntKind.max, IntKind.signed, IntKind.bits] at h; omega
theorem i64_ok {x : Int} (h : (Lit.int .i64 x).wf = true) : -9223372036854775808 ≤ x ∧ x ≤ 9223372036854775807 := by
  simp [Lit.wf, IntKind.min, IntKind.max, IntKind.signed, IntKind.bits] at h; omega

theorem fu4 : 10000 < FU := by decide
theorem fu5 : 100000 < FU := by decide
theorem fuM {k : Nat} (h : k ≤ ML) : k < FU := Nat.lt_of_le_of_lt h (by decide)
theorem odds_Compare_bad {n : Nat} {a b : List SRatio} (h : ovl a = false ∨ ovl b = false) (la : a.length ≤ ML) (lb : b.length ≤ ML) (na : a.length < n) (nb : b.length < n) : m_odds_Compare n a b = some (0, 1) := by
  unfold m_odds_Compare
  rw [odds_Valid la na, Option.bind_some]
  cases ha : ovl a with
  | false => simp
  | true =>
    rcases h with h | h
    · rw [ha] at h; cases h
    · simp [odds_Valid lb nb, h]
theorem ref28_Compare_bad {n : Nat} {a b : List SRatio} (h : ovl a = false ∨ ovl b = false) (la : a.length ≤ ML) (lb : b.length ≤ ML) (na : a.length < n) (nb : b.length < n) (hn : 100000 < n) : m_ref28_Compare n a b = some (0, 1) := by
  unfold m_ref28_Compare
  cases ha : ovl a with
  | false =>
    rw [(odds_bad ha la na).2.2.1, Option.bind_some]
    cases hb : ovl b with
    | false => rw [(odds_bad hb lb nb).2.2.1]; rfl
    | true => rw [ref28_Product hb hn]; rfl
  | true =>
    rcases h with h | h
    · rw [ha] at h; cases h
    · rw [ref28_Product ha hn, Option.bind_some, (odds_bad h lb nb).2.2.1]; rfl
theorem plain_OddsCompare {a b : List SRatio} (ha : a.length ≤ ML) (hb : b.length ≤ ML) : m_law28_OddsCompare FU a b = some true := by
  unfold m_law28_OddsCompare
  rw [awake28, Option.bind_some]
  by_cases h1 : 14 < a.length
  · simp [show (14 : Int) < a.length by omega]
  · by_cases h2 : 14 < b.length
    · simp [show (14 : Int) < b.length by omega]
    · simp only [show ¬ (14 : Int) < a.length by omega, show ¬ (14 : Int) < b.length by omega, decide_false, Bool.not_true, Bool.or_self, Bool.false_eq_true, if_false]
      rw [law_Own (by omega) fu4, Option.bind_some, law_Own (by omega) fu4, Option.bind_some]
      cases va : ovl a with
      | false => rw [odds_Compare_bad (.inl va) ha hb (fuM ha) (fuM hb), Option.bind_some, ref28_Compare_bad (.inl va) ha hb (fuM ha) (fuM hb) fu5]; simp
      | true =>
        cases vb : ovl b with
        | false => rw [odds_Compare_bad (.inr vb) ha hb (fuM ha) (fuM hb), Option.bind_some, ref28_Compare_bad (.inr vb) ha hb (fuM ha) (fuM hb) fu5]; simp
        | true => rw [odds_Compare va vb fu4, Option.bind_some, ref28_Compare va vb fu5]; simp
/-- What the statements say of a weight, by shifts. -/
theorem isW_shift {n d : Nat} {w : Int} (h : isW n d w) : d * 2 ^ w.toNat ≤ n * 2 ^ (-w).toNat ∧ n * 2 ^ (-w).toNat < d * 2 ^ w.toNat * 2 := by
  obtain ⟨p, q, rfl, a1, a2⟩ := h
  obtain ⟨m, h1, h2⟩ : ∃ m : Nat, ((p : Int) - q).toNat + m = p ∧ (-((p : Int) - q)).toNat + m = q := ⟨min p q, by omega, by omega⟩
  have hm : 0 < 2 ^ m := Nat.pow_pos (by decide)
  generalize ((p : Int) - q).toNat = P at *
  generalize (-((p : Int) - q)).toNat = Q at *
  rw [← h1, ← h2, Nat.pow_add, Nat.pow_add] at a1 a2
  have e1 : d * (2 ^ P * 2 ^ m) = d * 2 ^ P * 2 ^ m := by grind
  have e2 : n * (2 ^ Q * 2 ^ m) = n * 2 ^ Q * 2 ^ m := by grind
  have e3 : 2 * (d * 2 ^ P * 2 ^ m) = d * 2 ^ P * 2 * 2 ^ m := by grind
  rw [e1, e2] at a1 a2
  rw [e3] at a2
  exact ⟨Nat.le_of_mul_le_mul_right a1 hm, Nat.lt_of_mul_lt_mul_right a2⟩
theorem isW_low {a b g A B : Nat} {w : Int} (g0 : 0 < g) (e1 : a = g * A) (e2 : b = g * B) (hw : isW (a ^ 8) (b ^ 8) w) : isW (A ^ 8) (B ^ 8) w := by
  subst e1 e2
  rw [Nat.mul_pow, Nat.mul_pow] at hw
  exact (isW_scale (Nat.pow_pos g0)).1 hw
theorem odds_low8 {l : List SRatio} (h : ovl l = true) : ∃ A B : Nat, pn l / Nat.gcd (pn l) (pd l) = A ∧ pd l / Nat.gcd (pn l) (pd l) = B ∧ A < LIM ∧ B < LIM ∧ A ^ 8 < 2 ^ 960 ∧ B ^ 8 < 2 ^ 960 ∧ 0 < A ^ 8 ∧ 0 < B ^ 8 ∧ ∀ w, isW (pn l ^ 8) (pd l ^ 8) w → isW (A ^ 8) (B ^ 8) w := by
  have p1 := pn_le h
  have p2 := pd_le h
  obtain ⟨g0, e1, e2, a0, b0, a1, b1⟩ := low p1.1 p2.1
  have bl := big_lim1
  refine ⟨_, _, rfl, rfl, by omega, by omega, Nat.lt_of_le_of_lt (Nat.pow_le_pow_left (Nat.le_trans a1 p1.2) 8) big8, Nat.lt_of_le_of_lt (Nat.pow_le_pow_left (Nat.le_trans b1 p2.2) 8) big8, Nat.pow_pos a0, Nat.pow_pos b0, fun w hw => ?_⟩
  exact isW_low g0 e1 e2 hw
theorem nat_Power8 {n A : Nat} (h : A < LIM) (h8 : A ^ 8 < 2 ^ 960) (hn : 10000 < n) : m_nat_Power n (limbs A) 8 = some (limbs (A ^ 8), 0) := by
  have := nat_Power (n := n) (x := A) (m := 8) h (by decide) hn
  rw [if_pos (p960_lim h8)] at this
  exact this
theorem nat_ShiftI {n X : Nat} {w : Int} (h : X < 2 ^ 960) (h0 : 0 ≤ w) (hw : w ≤ 960) (hn : 10000 < n) : m_nat_Shift n (limbs X) w = some (limbs (X * 2 ^ w.toNat), 0) := by
  obtain ⟨k, rfl⟩ := Int.eq_ofNat_of_zero_le h0
  rw [nat_Shift (p960_lim h) (by omega) hn, if_pos (shift_lim h (Nat.le_refl _) (by omega))]; rfl
theorem plain_OddsMeans {l : List SRatio} (hl : l.length ≤ ML) : m_law28_OddsMeans FU l = some true := by
  unfold m_law28_OddsMeans
  rw [awake28, Option.bind_some]
  simp only [Bool.not_true, Bool.not_false, if_true]
  rw [ref28_Valid hl (fuM hl), Option.bind_some]
  cases hv : ovl l with
  | false => simp
  | true =>
    have h12 := (ovl_iff.1 hv).1
    simp only [Bool.not_true, Bool.or_self, Bool.false_eq_true, if_false]
    obtain ⟨w, hw, hW, w1, w2⟩ := odds_Weight hv fu4
    obtain ⟨A, B, rA, rB, la, lb, a8, b8, a0, b0, hs⟩ := odds_low8 hv
    have hW2 := isW_shift (hs w hW)
    rw [law_Own (by omega) fu4, Option.bind_some, odds_Product hv fu5, Option.bind_some, Option.bind_some, hw, Option.bind_some, rA, rB]
    dsimp only
    rw [nat_Power8 la a8 fu4, Option.bind_some, nat_Power8 lb b8 fu4, Option.bind_some]
    simp only [decide_true, Bool.not_true, Bool.or_self, show ¬ w < -960 by omega, show ¬ 960 < w by omega, decide_false, Bool.false_eq_true, if_false]
    generalize A ^ 8 = X at *
    generalize B ^ 8 = Y at *
    have hxy : (if decide (0 ≤ w) = true then (m_nat_Shift FU (limbs Y) w).bind fun v11 => some (v11.2, limbs X, v11.1) else (m_nat_Shift FU (limbs X) (IntKind.i64.wrap (-w))).bind fun v12 => some (v12.2, v12.1, limbs Y) : Option (Int × List Int × List Int)) = some (0, limbs (X * 2 ^ (-w).toNat), limbs (Y * 2 ^ w.toNat)) := by
      by_cases h0 : 0 ≤ w
      · simp only [h0, decide_true, if_true]
        rw [nat_ShiftI b8 h0 w2 fu4, show (-w).toNat = 0 by omega, Nat.pow_zero, Nat.mul_one]; rfl
      · simp only [h0, decide_false, Bool.false_eq_true, if_false]
        rw [w64 (by omega) (by omega), nat_ShiftI a8 (by omega) (by omega) fu4, show w.toNat = 0 by omega, Nat.pow_zero, Nat.mul_one]; rfl
    rw [hxy, Option.bind_some]
    dsimp only
    have s1 := shift_lim a8 (b := 960) (p := (-w).toNat) (Nat.le_refl _) (by omega)
    have s2 := shift_lim b8 (b := 960) (p := w.toNat) (Nat.le_refl _) (by omega)
    have s3 : Y * 2 ^ w.toNat * 2 ^ 1 < LIM := by
      rw [lim_pow, Nat.pow_one]
      have h1 := p2le (show w.toNat ≤ 960 by omega)
      have h2 := Nat.mul_le_mul (Nat.le_of_lt b8) h1
      refine Nat.lt_of_le_of_lt (Nat.mul_le_mul_right 2 h2) ?_
      decide +kernel
    rw [show (1 : Int) = ((1 : Nat) : Int) from rfl, nat_Shift s2 (by decide) fu4, if_pos s3, Option.bind_some]
    dsimp only
    simp only [decide_true, Bool.and_self, if_true]
    rw [nat_Compare s2 s1 fu4, Option.bind_some]
    simp only [sgn_le.2 hW2.1, decide_true, Bool.true_and, if_true]
    rw [nat_Compare s1 s3 fu4, Option.bind_some]
    simp only [sgn_lt.2 (show X * 2 ^ (-w).toNat < Y * 2 ^ w.toNat * 2 ^ 1 by rw [Nat.pow_one]; exact hW2.2), decide_true]
theorem pr_swp (l : List SRatio) : pn (l.map swp) = pd l ∧ pd (l.map swp) = pn l := by
  induction l with
  | nil => exact ⟨rfl, rfl⟩
  | cons r l ih => simp only [List.map_cons, pr, swp, ih]; exact ⟨by trivial, by trivial⟩
theorem ovl_swp {l : List SRatio} : ovl (l.map swp) = ovl l := by
  rw [Bool.eq_iff_iff, ovl_iff, ovl_iff]
  simp only [List.length_map, List.mem_map]
  constructor
  · rintro ⟨h1, h2⟩
    refine ⟨h1, fun r hr => ?_⟩
    have := h2 (swp r) ⟨r, hr, rfl⟩
    simp only [swp] at this; omega
  · rintro ⟨h1, h2⟩
    refine ⟨h1, ?_⟩
    rintro r ⟨s, hs, rfl⟩
    have := h2 s hs
    simp only [swp]; omega
theorem plain_OddsInverse {l : List SRatio} (hl : l.length ≤ ML) : m_law28_OddsInverse FU l = some true := by
  unfold m_law28_OddsInverse
  rw [awake28, Option.bind_some]
  simp only [Bool.not_true, Bool.not_false, if_true]
  rw [ref28_Valid hl (fuM hl), Option.bind_some]
  cases hv : ovl l with
  | false => simp
  | true =>
    have h12 := (ovl_iff.1 hv).1
    have hv2 : ovl (l.map swp) = true := by rw [ovl_swp]; exact hv
    simp only [Bool.not_true, Bool.or_self, Bool.false_eq_true, if_false]
    obtain ⟨w, hw, hW, w1, w2⟩ := odds_Weight hv fu4
    obtain ⟨v, hv1, hV, v1, v2⟩ := odds_Weight hv2 fu4
    rw [(pr_swp l).1, (pr_swp l).2] at hV
    have hinv := isW_inv (Nat.pow_pos (pn_le hv).1) hW hV
    obtain ⟨A, B, rA, rB, la, lb, a8, b8, a0, b0, hs⟩ := odds_low8 hv
    obtain ⟨A', B', rA', rB', _, _, _, _, _, _, hs'⟩ := odds_low8 hv2
    have eA : A' = B := by rw [← rA', ← rB, (pr_swp l).1, (pr_swp l).2, Nat.gcd_comm]
    have eB : B' = A := by rw [← rB', ← rA, (pr_swp l).1, (pr_swp l).2, Nat.gcd_comm]
    have hV2 := hs' v (by rw [(pr_swp l).1, (pr_swp l).2]; exact hV)
    rw [eA, eB] at hV2
    have hinv := isW_inv a0 (hs w hW) hV2
    rw [law_Own (by omega) fu4, Option.bind_some, hw, Option.bind_some, Option.bind_some, odds_Inverse (by omega) fu4, Option.bind_some, hv1, Option.bind_some, Option.bind_some, odds_Product hv fu5, Option.bind_some, rA, rB]
    dsimp only
    rw [nat_Power8 la a8 fu4, Option.bind_some, nat_Power8 lb b8 fu4, Option.bind_some]
    simp only [decide_true, Bool.not_true, Bool.or_self, Bool.false_eq_true, if_false]
    have lA : (limbs A).length ≤ 1000 := Nat.le_trans (lim_len.2 la) (by decide)
    have lB : (limbs B).length ≤ 1000 := Nat.le_trans (lim_len.2 lb) (by decide)
    clear hW hV hs hs' hV2 hv1 hw
    generalize hX : A ^ 8 = X at *
    generalize hY : B ^ 8 = Y at *
    have hxy : (if decide (0 ≤ w) = true then (m_nat_Shift FU (limbs Y) w).bind fun v11 => some (v11.2, limbs X, v11.1) else (m_nat_Shift FU (limbs X) (IntKind.i64.wrap (-w))).bind fun v12 => some (v12.2, v12.1, limbs Y) : Option (Int × List Int × List Int)) = some (0, limbs (X * 2 ^ (-w).toNat), limbs (Y * 2 ^ w.toNat)) := by
      by_cases h0 : 0 ≤ w
      · simp only [h0, decide_true, if_true]
        rw [nat_ShiftI b8 h0 w2 fu4, show (-w).toNat = 0 by omega, Nat.pow_zero, Nat.mul_one]; rfl
      · simp only [h0, decide_false, Bool.false_eq_true, if_false]
        rw [w64 (by omega) (by omega), nat_ShiftI a8 (by omega) (by omega) fu4, show w.toNat = 0 by omega, Nat.pow_zero, Nat.mul_one]; rfl
    rw [hxy, Option.bind_some, Option.bind_some, odds_Inverse (by omega) fu4, Option.bind_some, odds_Product hv2 fu5, Option.bind_some, rA', rB', eA, eB]
    dsimp only
    have s1 := shift_lim a8 (b := 960) (p := (-w).toNat) (Nat.le_refl _) (by omega)
    have s2 := shift_lim b8 (b := 960) (p := w.toNat) (Nat.le_refl _) (by omega)
    simp only [decide_true, Bool.not_true, Bool.or_self, Bool.not_false, if_true]
    rw [same_limbs lB fu4, Option.bind_some]
    simp only [decide_true, Bool.not_true, Bool.or_self, Bool.not_false, if_true]
    rw [same_limbs lA fu4, Option.bind_some]
    simp only [decide_true, Bool.not_true, Bool.or_self, Bool.false_eq_true, if_false]
    rw [nat_Compare s1 s2 fu4, Option.bind_some, w64 (by omega) (by omega), w64 (by omega) (by omega)]
    by_cases hc : X * 2 ^ (-w).toNat = Y * 2 ^ w.toNat
    · simp [sgn_eq.2 hc, hinv.1 hc.symm]
    · have h0 : ¬ sgn (X * 2 ^ (-w).toNat) (Y * 2 ^ w.toNat) = 0 := fun h => hc (sgn_eq.1 h)
      simp [h0, hinv.2 (Ne.symm hc)]
end Go.Proofs.Ythopbnohgifehaa.Ab
