/- What the reference's functions on odds compute. Conditions: none. -/
import Derived.Test.YthopbnohgifehaaOb
namespace Go.Proofs.Ythopbnohgifehaa.Ab
open Go

theorem limbs_small {x : Int} (h0 : 1 ≤ x) (h : x ≤ 1000) : ([x] : List Int) = limbs x.toNat := by
  rw [limbs_pos (by omega), show x.toNat / 65536 = 0 by omega, limbs_zero, show ((x.toNat % 65536 : Nat) : Int) = x by omega]
theorem ref28_Product {n : Nat} {l : List SRatio} (h : ovl l = true) (hn : 100000 < n) : m_ref28_Product n l = some (limbs (pn l / Nat.gcd (pn l) (pd l)), limbs (pd l / Nat.gcd (pn l) (pd l)), 0) := by
  unfold m_ref28_Product
  have hv := ovl_iff.1 h
  have p1 := pn_le h
  have p2 := pd_le h
  have bl := big_lim1
  have g0 : 0 < Nat.gcd (pn l) (pd l) := Nat.gcd_pos_of_pos_left _ p1.1
  have g1 : Nat.gcd (pn l) (pd l) ≤ pn l := Nat.gcd_le_left _ p1.1
  rw [ref28_Valid (by simp only [ML]; omega) (by omega), h]
  simp only [Option.bind_some, Bool.not_true, Bool.false_eq_true, if_false]
  obtain ⟨t, h1, h2⟩ := iter_inv (σ := List Int × List Int × Int) (f := fun s => m_ref28_Product_L1 n l s.1 s.2.1 s.2.2)
    (I := fun k s => ∃ i : Nat, s = (limbs (pn (l.take i)), limbs (pd (l.take i)), (i : Int)) ∧ i + k = l.length) (Q := fun t => t = (limbs (pn l), limbs (pd l))) (by
      rintro k s ⟨i, rfl, h1⟩
      simp only [m_ref28_Product_L1]
      by_cases hk : k = 0
      · right
        have e : i = l.length := by omega
        subst e
        exact ⟨(limbs (pn l), limbs (pd l)), by simp, rfl⟩
      · left
        have hi : i < l.length := by omega
        have hr := hv.2 (l.getD i default) (by simp [hi])
        have p1 := pn_le (ovl_take h i)
        have p2 := pd_le (ovl_take h i)
        have p3 := pn_le (ovl_take h (i + 1))
        have p4 := pd_le (ovl_take h (i + 1))
        have s1 : pn (l.take (i + 1)) = pn (l.take i) * (l.getD i default).fNum.toNat := pr_take_succ (fun r => r.fNum.toNat) hi
        have s2 : pd (l.take (i + 1)) = pd (l.take i) * (l.getD i default).fDen.toNat := pr_take_succ (fun r => r.fDen.toNat) hi
        simp only [show (i : Int) < l.length by omega, decide_true, if_true]
        rw [ix_get default hi]
        simp only [Option.bind_some]
        generalize l.getD i default = r at *
        rw [limbs_small (by omega) (by omega), ref_Mul (by omega) (small_lim (by omega)) (by omega), ← s1, if_pos (by omega), Option.bind_some]
        rw [limbs_small (x := r.fDen) (by omega) (by omega), ref_Mul (by omega) (small_lim (by omega)) (by omega), ← s2, if_pos (by omega), Option.bind_some, wadd1 (show i < 1000 by omega) (by decide)]
        exact ⟨_, k - 1, rfl, by omega, i + 1, rfl, by omega⟩) l.length n ([1], [1], 0) ⟨0, by rw [one_limbs]; rfl, by omega⟩ (by omega)
  rw [h1, Option.bind_some, h2]
  dsimp only
  rw [ref_Gcd (by omega) (by omega) (by omega), Option.bind_some]
  dsimp only
  rw [ref_Divide (by omega) (by omega) g0 (by omega), Option.bind_some, ref_Divide (by omega) (by omega) g0 (by omega)]; rfl
/-- A product in lowest terms. -/
theorem low {a b : Nat} (ha : 0 < a) (hb : 0 < b) : 0 < Nat.gcd a b ∧ a = Nat.gcd a b * (a / Nat.gcd a b) ∧ b = Nat.gcd a b * (b / Nat.gcd a b) ∧ 0 < a / Nat.gcd a b ∧ 0 < b / Nat.gcd a b ∧ a / Nat.gcd a b ≤ a ∧ b / Nat.gcd a b ≤ b := by
  have h0 : 0 < Nat.gcd a b := Nat.gcd_pos_of_pos_left _ ha
  have h1 : a = Nat.gcd a b * (a / Nat.gcd a b) := (Nat.mul_div_cancel' (Nat.gcd_dvd_left a b)).symm
  have h2 : b = Nat.gcd a b * (b / Nat.gcd a b) := (Nat.mul_div_cancel' (Nat.gcd_dvd_right a b)).symm
  refine ⟨h0, h1, h2, Nat.div_pos (Nat.gcd_le_left _ ha) h0, Nat.div_pos (Nat.gcd_le_right _ hb) h0, Nat.div_le_self _ _, Nat.div_le_self _ _⟩
theorem ref28_Weight {n : Nat} {l : List SRatio} (h : ovl l = true) (hn : 100000 < n) : ∃ w, m_ref28_Weight n l = some (w, 0) ∧ isW (pn l ^ 8) (pd l ^ 8) w := by
  have p1 := pn_le h
  have p2 := pd_le h
  obtain ⟨g0, e1, e2, a0, b0, a1, b1⟩ := low p1.1 p2.1
  unfold m_ref28_Weight
  rw [ref28_Product h hn, Option.bind_some]
  dsimp only
  generalize hA : pn l / Nat.gcd (pn l) (pd l) = A at *
  generalize hB : pd l / Nat.gcd (pn l) (pd l) = B at *
  generalize Nat.gcd (pn l) (pd l) = g at *
  have hA8 : A ^ 8 < 2 ^ 960 := Nat.lt_of_le_of_lt (Nat.pow_le_pow_left (Nat.le_trans a1 p1.2) 8) big8
  have hB8 : B ^ 8 < 2 ^ 960 := Nat.lt_of_le_of_lt (Nat.pow_le_pow_left (Nat.le_trans b1 p2.2) 8) big8
  have bl := big_lim1
  have q1 := ref_Power (n := n) (x := A) (m := 8) (by omega) (by decide) (by omega)
  have q2 := ref_Power (n := n) (x := B) (m := 8) (by omega) (by decide) (by omega)
  rw [if_pos (p960_lim hA8)] at q1
  rw [if_pos (p960_lim hB8)] at q2
  rw [show ((8 : Nat) : Int) = 8 from rfl] at q1 q2
  have z1 : A ^ 8 ≠ 0 := Nat.ne_of_gt (Nat.pow_pos a0)
  have z2 : B ^ 8 ≠ 0 := Nat.ne_of_gt (Nat.pow_pos b0)
  simp only [decide_true, Bool.not_true, Bool.false_eq_true, if_false]
  rw [q1, Option.bind_some, q2, Option.bind_some]
  dsimp only
  rw [ref_Bits (p960_lim hA8) (by omega), Option.bind_some, ref_Bits (p960_lim hB8) (by omega), Option.bind_some]
  have hsc : ∀ w, isW (A ^ 8) (B ^ 8) w → isW (pn l ^ 8) (pd l ^ 8) w := fun w hw => by
    rw [e1, e2, Nat.mul_pow, Nat.mul_pow]
    exact (isW_scale (Nat.pow_pos g0)).2 hw
  clear q1 q2 e1 e2
  generalize A ^ 8 = X at *
  generalize B ^ 8 = Y at *
  have c1 : bits X ≤ 960 := bits_le.2 hA8
  have c2 : bits Y ≤ 960 := bits_le.2 hB8
  obtain ⟨w0, hw⟩ : ∃ w0 : Int, w0 = (bits X : Int) - bits Y := ⟨_, rfl⟩
  obtain ⟨p, hp⟩ : ∃ p : Nat, (p : Int) = max w0 0 := ⟨(max w0 0).toNat, by omega⟩
  obtain ⟨q, hq⟩ : ∃ q : Nat, (q : Int) = max (-w0) 0 := ⟨(max (-w0) 0).toNat, by omega⟩
  have s1 := shift_lim hB8 (b := 960) (p := p) (Nat.le_refl _) (by omega)
  have s2 := shift_lim hA8 (b := 960) (p := q) (Nat.le_refl _) (by omega)
  have hW := hsc _ (isW_bits z1 z2 w0 hw p q hp hq)
  rw [w64 (by omega) (by omega), ← hw]
  have hxy : (if decide (0 < w0) = true then (m_ref03_Shift n (limbs Y) w0).bind fun v7 => some (limbs X, v7.1) else (m_ref03_Shift n (limbs X) (IntKind.i64.wrap (-w0))).bind fun v8 => some (v8.1, limbs Y) : Option (List Int × List Int)) = some (limbs (X * 2 ^ q), limbs (Y * 2 ^ p)) := by
    by_cases hpos : 0 < w0
    · have : q = 0 := by omega
      subst this
      simp only [hpos, decide_true, if_true]
      rw [show w0 = (p : Int) by omega, ref_Shift (p960_lim hB8) (by omega) (by omega), if_pos s1, Nat.pow_zero, Nat.mul_one]; rfl
    · have : p = 0 := by omega
      subst this
      simp only [hpos, decide_false, Bool.false_eq_true, if_false]
      rw [w64 (by omega) (by omega), show -w0 = (q : Int) by omega, ref_Shift (p960_lim hA8) (by omega) (by omega), if_pos s2, Nat.pow_zero, Nat.mul_one]; rfl
  rw [hxy, Option.bind_some]
  dsimp only
  rw [ref_Compare s2 s1 (by omega), Option.bind_some]
  by_cases hc : X * 2 ^ q < Y * 2 ^ p
  · rw [if_pos hc] at hW
    simp only [sgn_lt.2 hc, decide_true, if_true, Option.bind_some]
    rw [w64 (by omega) (by omega)]
    exact ⟨_, rfl, hW⟩
  · rw [if_neg hc] at hW
    have : ¬ sgn (X * 2 ^ q) (Y * 2 ^ p) < 0 := fun h => hc (sgn_lt.1 h)
    simp only [this, decide_false, Bool.false_eq_true, if_false, Option.bind_some]
    exact ⟨_, rfl, hW⟩
theorem sgn_scale {x y c : Nat} (hc : 0 < c) : sgn (c * x) (c * y) = sgn x y := by
  unfold sgn
  have h1 : c * x < c * y ↔ x < y := Nat.mul_lt_mul_left hc
  have h2 : c * x = c * y ↔ x = y := Nat.mul_right_inj (by omega)
  simp only [h1, h2]
theorem sgn_low {a b c d g h A B C D : Nat} (g0 : 0 < g) (h0 : 0 < h) (e1 : a = g * A) (e2 : b = g * B) (f1 : c = h * C) (f2 : d = h * D) : sgn (a * d) (c * b) = sgn (A * D) (C * B) := by
  subst e1 e2 f1 f2
  rw [← sgn_scale (x := A * D) (y := C * B) (c := g * h) (Nat.mul_pos g0 h0)]
  congr 1 <;> grind
theorem ref28_Compare {n : Nat} {a b : List SRatio} (ha : ovl a = true) (hb : ovl b = true) (hn : 100000 < n) : m_ref28_Compare n a b = some (sgn (pn a * pd b) (pn b * pd a), 0) := by
  have a1 := pn_le ha
  have a2 := pd_le ha
  have b1 := pn_le hb
  have b2 := pd_le hb
  obtain ⟨g0, e1, e2, _, _, m1, m2⟩ := low a1.1 a2.1
  obtain ⟨h0, f1, f2, _, _, n1, n2⟩ := low b1.1 b2.1
  unfold m_ref28_Compare
  rw [ref28_Product ha hn, Option.bind_some, ref28_Product hb hn, Option.bind_some]
  have bl := big_lim
  have bl1 := big_lim1
  have hs : sgn (pn a * pd b) (pn b * pd a) = sgn (pn a / Nat.gcd (pn a) (pd a) * (pd b / Nat.gcd (pn b) (pd b))) (pn b / Nat.gcd (pn b) (pd b) * (pd a / Nat.gcd (pn a) (pd a))) := by
    exact sgn_low g0 h0 e1 e2 f1 f2
  rw [hs]
  clear hs e1 e2 f1 f2
  generalize pn a / Nat.gcd (pn a) (pd a) = A at *
  generalize pd a / Nat.gcd (pn a) (pd a) = B at *
  generalize pn b / Nat.gcd (pn b) (pd b) = C at *
  generalize pd b / Nat.gcd (pn b) (pd b) = D at *
  have l1 : A * D < LIM := Nat.lt_of_le_of_lt (Nat.mul_le_mul (Nat.le_trans m1 a1.2) (Nat.le_trans n2 b2.2)) bl
  have l2 : C * B < LIM := Nat.lt_of_le_of_lt (Nat.mul_le_mul (Nat.le_trans n1 b1.2) (Nat.le_trans m2 a2.2)) bl
  simp only [decide_true, Bool.not_true, Bool.or_self, Bool.false_eq_true, if_false]
  rw [ref_Mul (by omega) (by omega) (by omega), if_pos l1, Option.bind_some, ref_Mul (by omega) (by omega) (by omega), if_pos l2, Option.bind_some]
  dsimp only
  rw [ref_Compare l1 l2 (by omega)]; rfl
/-- What is refused. -/
theorem odds_bad {n : Nat} {l : List SRatio} (h : ovl l = false) (hl : l.length ≤ ML) (hn : l.length < n) : m_odds_Product n l = some ([], [], 1) ∧ m_odds_Weight n l = some (0, 1) ∧ m_ref28_Product n l = some ([], [], 1) ∧ m_ref28_Weight n l = some (0, 1) := by
  have h1 : m_ref28_Product n l = some ([], [], 1) := by simp [m_ref28_Product, ref28_Valid hl hn, h]
  refine ⟨by simp [m_odds_Product, odds_Valid hl hn, h], by simp [m_odds_Weight, odds_Valid hl hn, h], h1, by simp [m_ref28_Weight, h1]⟩
set_option maxRecDepth 100000 in
theorem awake28 : m_law28_awake FU = some true := by decide +kernel
end Go.Proofs.Ythopbnohgifehaa.Ab
