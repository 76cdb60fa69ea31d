/- What the reference's functions on numbers compute: quotients and the rest. Conditions: none. -/
import Derived.Test.YtagdgndoabomiaaDoorNe
namespace Go.Proofs.YtagdgndoabomiaaDoor.Ab
open Go

theorem ref_half {n x : Nat} (hl : (limbs x).length ≤ 400) (hn : 10000 < n) : m_ref03_half n (limbs x) = some (limbs (x / 2)) := by
  unfold m_ref03_half
  generalize hA : limbs x = a at *
  have ha : digs a := hA ▸ digs_limbs x
  have vA : val a = x := by rw [← hA, val_limbs]
  simp (disch := omega) only [mkL_some, Option.bind_some, Int.toNat_natCast]
  obtain ⟨t, h1, h2, h3, h4⟩ := iter_inv (σ := Int × List Int) (f := fun s => m_ref03_half_L1 n a s.1 s.2)
    (I := fun k s => ∃ i : Nat, s.1 = i ∧ i + k = a.length ∧ s.2.length = a.length ∧ digs s.2 ∧ 2 * val (s.2.take i) + a.getD 0 0 % 2 = val (a.take i) + (a.getD i 0 % 2) * 65536 ^ i)
    (Q := fun t => t.length = a.length ∧ digs t ∧ 2 * val t + a.getD 0 0 % 2 = val a) (by
      rintro k ⟨j, o⟩ ⟨i, h1, h2, h4, h5, h6⟩
      dsimp only at h1 h4 h5 h6
      subst h1
      simp only [m_ref03_half_L1]
      by_cases hk : k = 0
      · right
        refine ⟨o, by simp [show ¬ i < a.length by omega], h4, h5, ?_⟩
        rw [take_all (by omega), take_all (by omega)] at h6
        have : a.getD i 0 = 0 := by rw [List.getD_eq_getElem?_getD, List.getElem?_eq_none (by omega)]; rfl
        rw [this] at h6
        simpa using h6
      · left
        have b1 := digs_getD ha i
        have b2 := digs_getD ha (i + 1)
        have e1 : (i : Int) < a.length := by omega
        have e2 : (i : Int) + 1 = ((i + 1 : Nat) : Int) := by omega
        have s1 := val_take_succ a i
        have s2 : a.getD i 0 = 2 * (a.getD i 0 / 2) + a.getD i 0 % 2 := by omega
        have hol : i < o.length := by omega
        have hset : (o.set i (a.getD i 0 / 2)).getD i 0 = a.getD i 0 / 2 := by rw [getD_set _ _ _ _ _ hol, if_pos rfl]
        have hsl : (o.set i (a.getD i 0 / 2)).length = o.length := by simp
        simp (disch := omega) only [e1, decide_true, if_true, ixI, Option.bind_some, quoN, setI_some, w64, e2, Int.toNat_natCast, hset]
        by_cases hh : i + 1 < a.length
        · have e3 : ((i + 1 : Nat) : Int) < a.length := by omega
          simp (disch := omega) only [e3, decide_true, if_true, ixI, Option.bind_some, Int.toNat_natCast, remN, Bool.true_and]
          by_cases hodd : a.getD (i + 1) 0 % 2 = 1
          · simp (disch := omega) only [hodd, decide_true, if_true, Option.bind_some, setI_some, w64, Int.toNat_natCast, List.set_set]
            refine ⟨_, k - 1, rfl, by omega, i + 1, rfl, by omega, by simp [h4], digs_set h5 (by omega) (by omega), ?_⟩
            dsimp only
            rw [val_take_set_succ _ hol, Int.pow_succ, s1, hodd]
            generalize a.getD i 0 / 2 = Q at *
            generalize a.getD i 0 % 2 = R at *
            grind
          · simp only [hodd, decide_false, Bool.false_eq_true, if_false, Option.bind_some]
            refine ⟨_, k - 1, rfl, by omega, i + 1, rfl, by omega, by simp [h4], digs_set h5 (by omega) (by omega), ?_⟩
            dsimp only
            have hev : a.getD (i + 1) 0 % 2 = 0 := by omega
            rw [val_take_set_succ _ hol, Int.pow_succ, s1, hev]
            generalize a.getD i 0 / 2 = Q at *
            generalize a.getD i 0 % 2 = R at *
            grind
        · have e3 : ¬ ((i + 1 : Nat) : Int) < a.length := by omega
          simp only [e3, decide_false, Bool.false_eq_true, if_false, Option.bind_some, Bool.false_and]
          refine ⟨_, k - 1, rfl, by omega, i + 1, rfl, by omega, by simp [h4], digs_set h5 (by omega) (by omega), ?_⟩
          dsimp only
          have hev : a.getD (i + 1) 0 % 2 = 0 := by rw [List.getD_eq_getElem?_getD, List.getElem?_eq_none (by omega)]; rfl
          rw [val_take_set_succ _ hol, Int.pow_succ, s1, hev]
          generalize a.getD i 0 / 2 = Q at *
          generalize a.getD i 0 % 2 = R at *
          grind) a.length n (0, List.replicate a.length 0) ⟨0, rfl, by omega, by simp, digs_zeros _, by simp [val]⟩ (by omega)
  simp only [h1, Option.bind_some, ref_trim h3 (by omega) hn, trim]
  congr 2
  have := digs_getD ha 0
  omega
theorem ref_less {n : Nat} {a b : List Int} (ha : digs a) (hb : digs b) (hl : a.length ≤ 400) (hv : val b ≤ val a) (hn : 10000 < n) : m_ref03_less n a b = some (limbs (va a - va b)) := by
  unfold m_ref03_less
  obtain ⟨t, h1, h2, h3, h4⟩ := iter_inv (σ := List Int × Int × Int) (f := fun s => m_ref03_less_L1 n a b s.1 s.2.1 s.2.2)
    (I := fun k s => ∃ i : Nat, s.2.2 = i ∧ i + k = a.length ∧ (s.2.1 = 0 ∨ s.2.1 = 1) ∧ s.1.length = i ∧ digs s.1 ∧ val s.1 = val (a.take i) - val (b.take i) + s.2.1 * 65536 ^ i)
    (Q := fun t => t.length = a.length ∧ digs t ∧ val t = val a - val b) (by
      rintro k ⟨o, c, j⟩ ⟨i, h1, h2, h3, h4, h5, h6⟩
      dsimp only at h1 h3 h4 h5 h6
      subst h1
      simp only [m_ref03_less_L1]
      by_cases hk : k = 0
      · right
        have e0 : i = a.length := by omega
        refine ⟨o, by simp [e0], by omega, h5, ?_⟩
        have hb1 := val_bounds ha
        rw [e0, take_all (Nat.le_refl _), val_take_big hb (by omega)] at h6
        have hb2 := val_bounds h5
        rw [h4, e0] at hb2
        rcases h3 with h3 | h3
        · rw [h3] at h6; omega
        · rw [h3] at h6; omega
      · left
        have b1 := digs_getD ha i
        have b2 := digs_getD hb i
        have e1 : (i : Int) < a.length := by omega
        have s1 := val_take_succ a i
        have s2 := val_take_succ b i
        have t1 : (if decide ((i : Int) < b.length) = true then (ix b (i : Int)).bind fun v7 => some (IntKind.i64.wrap (IntKind.i64.wrap (a.getD i 0 - c) - v7)) else some (IntKind.i64.wrap (a.getD i 0 - c))) = some (a.getD i 0 - c - b.getD i 0) := by
          by_cases h : i < b.length
          · simp (disch := omega) only [show (i : Int) < b.length by omega, decide_true, if_true, ixI, Option.bind_some, w64, Int.toNat_natCast]
          · rw [List.getD_eq_getElem?_getD (l := b), List.getElem?_eq_none (l := b) (by omega)]
            simp (disch := omega) only [show ¬ (i : Int) < b.length by omega, decide_false, Bool.false_eq_true, if_false, w64]
            simp
        simp (disch := omega) only [e1, decide_true, if_true, ixI, Option.bind_some, Int.toNat_natCast, t1]
        by_cases hd : a.getD i 0 - c - b.getD i 0 < 0
        · simp (disch := omega) only [hd, decide_true, if_true, Option.bind_some, w64]
          rw [app_some (by decide) (by simp; omega), Option.bind_some]
          refine ⟨_, k - 1, rfl, by omega, i + 1, rfl, by omega, .inr rfl, by simp [h4], digs_append.2 ⟨h5, digs_one (by omega)⟩, ?_⟩
          dsimp only
          rw [val_snoc, h4, Int.pow_succ]
          grind
        · simp (disch := omega) only [hd, decide_false, Bool.false_eq_true, if_false, Option.bind_some, w64]
          rw [app_some (by decide) (by simp; omega), Option.bind_some]
          refine ⟨_, k - 1, rfl, by omega, i + 1, rfl, by omega, .inl rfl, by simp [h4], digs_append.2 ⟨h5, digs_one (by omega)⟩, ?_⟩
          dsimp only
          rw [val_snoc, h4, Int.pow_succ]
          grind) a.length n ([], 0, 0) ⟨0, rfl, by omega, .inl rfl, rfl, digs_nil, by simp [val]⟩ (by omega)
  simp only [h1, Option.bind_some, ref_trim h3 (by omega) hn, trim, h4]
  congr 2
  have := val_bounds ha
  have := val_bounds hb
  simp only [va]; omega
theorem p2le {a b : Nat} (h : a ≤ b) : 2 ^ a ≤ 2 ^ b := Nat.pow_le_pow_right (by decide) h
theorem lim_pow : LIM = 2 ^ 2048 := by
  decide +kernel
theorem one_limbs : ([1] : List Int) = limbs 1 := by rw [limbs_pos (by decide)]; simp [limbs_zero]
theorem ref_divide {n a b : Nat} (ha : a < LIM) (hbl : b < LIM) (hb : 0 < b) (hn : 10000 < n) : m_ref03_divide n (limbs a) (limbs b) = some (limbs (a / b), limbs (a % b)) := by
  unfold m_ref03_divide
  have la := lim_len.2 ha
  have lb := lim_len.2 hbl
  obtain ⟨t, h1, N, h2, h3, h4, h5⟩ := iter_inv (σ := List Int × Int) (f := fun s => m_ref03_divide_L1 n (limbs a) s.1 s.2)
    (I := fun k s => ∃ j : Nat, s = (limbs (b * 2 ^ j), (j : Int)) ∧ j + k = 2048 ∧ a < b * 2 ^ j * 2 ^ k ∧ (limbs (b * 2 ^ j)).length ≤ 129)
    (Q := fun t => ∃ N : Nat, t = (limbs (b * 2 ^ N), (N : Int)) ∧ N ≤ 2048 ∧ a < b * 2 ^ N ∧ (limbs (b * 2 ^ N)).length ≤ 129) (by
      rintro k s ⟨j, rfl, h1, h2, h3⟩
      simp only [m_ref03_divide_L1]
      rw [ref_compare (by omega) (by omega) hn, Option.bind_some]
      by_cases hc : b * 2 ^ j ≤ a
      · left
        simp only [sgn_le.2 hc, decide_true, if_true]
        rw [ref_sum (digs_limbs _) (digs_limbs _) (by omega) (by omega) hn, Option.bind_some, va_limbs]
        have e : b * 2 ^ j + b * 2 ^ j = b * 2 ^ (j + 1) := by rw [Nat.pow_succ]; grind
        have l1 := Nat.le_trans (limbs_len_le hc) la
        have l2 := len_add l1 l1
        cases k with
        | zero => simp at h2; omega
        | succ k =>
          refine ⟨_, k, rfl, by omega, j + 1, by rw [e, wadd1 (show j < 10000 by omega) (by decide)], by omega, ?_, by rw [← e]; exact l2⟩
          rw [show b * 2 ^ (j + 1) * 2 ^ k = b * 2 ^ j * 2 ^ (k + 1) by rw [Nat.pow_succ, Nat.pow_succ]; grind]
          exact h2
      · right
        have : ¬ sgn (b * 2 ^ j) a ≤ 0 := fun h => hc (sgn_le.1 h)
        simp only [this, decide_false, Bool.false_eq_true, if_false]
        exact ⟨_, rfl, j, rfl, by omega, by omega, h3⟩) 2048 n (limbs b, 0) ⟨0, by simp, by omega, by
          rw [← lim_pow, Nat.pow_zero, Nat.mul_one]
          exact Nat.lt_of_lt_of_le ha (Nat.le_mul_of_pos_left _ hb), by simp; omega⟩ (by omega)
  rw [h1, Option.bind_some]
  subst h2
  obtain ⟨t, g1, q, r, g2, g3, g4⟩ := iter_inv (σ := List Int × List Int × List Int × Int) (f := fun s => m_ref03_divide_L2 n (limbs (b * 2 ^ N), (N : Int)) s.1 s.2.1 s.2.2.1 s.2.2.2)
    (I := fun k s => ∃ (j r q : Nat), s = (limbs r, limbs (b * 2 ^ k), limbs q, (j : Int)) ∧ j + k = N ∧ r < b * 2 ^ k ∧ a = q * (b * 2 ^ k) + r ∧ (limbs (b * 2 ^ k)).length ≤ 129)
    (Q := fun t => ∃ q r : Nat, t = (limbs r, limbs q) ∧ r < b ∧ a = q * b + r) (by
      rintro k s ⟨j, r, q, rfl, p1, p2, p3, p4⟩
      simp only [m_ref03_divide_L2]
      cases k with
      | zero =>
        right
        rw [Nat.pow_zero, Nat.mul_one] at p2 p3
        exact ⟨(limbs r, limbs q), by simp [show j = N by omega], q, r, rfl, p2, p3⟩
      | succ k =>
        left
        have e1 : (j : Int) < (N : Int) := by omega
        have e2 : b * 2 ^ (k + 1) / 2 = b * 2 ^ k := by
          rw [Nat.pow_succ, ← Nat.mul_assoc, Nat.mul_div_cancel _ (by decide)]
        have e5 : b * 2 ^ (k + 1) = 2 * (b * 2 ^ k) := by rw [Nat.pow_succ]; grind
        have hpos : 1 ≤ b * 2 ^ k := Nat.mul_pos hb (Nat.pow_pos (by decide))
        have hq : q ≤ a := by
          have := Nat.mul_le_mul_left q (show 1 ≤ b * 2 ^ (k + 1) by omega)
          omega
        have lq := Nat.le_trans (limbs_len_le hq) la
        have lqq := len_add lq lq
        have hr : r ≤ a := by omega
        have lr := Nat.le_trans (limbs_len_le hr) la
        have lc : (limbs (b * 2 ^ k)).length ≤ 129 := Nat.le_trans (limbs_len_le (by omega)) p4
        simp only [e1, decide_true, if_true]
        rw [ref_half (by omega) hn, Option.bind_some, e2, ref_sum (digs_limbs q) (digs_limbs q) (by omega) (by omega) hn, Option.bind_some, va_limbs, ref_compare (by omega) (by omega) hn, Option.bind_some]
        by_cases hc : b * 2 ^ k ≤ r
        · simp only [sgn_le.2 hc, decide_true, if_true]
          rw [ref_less (digs_limbs r) (digs_limbs (b * 2 ^ k)) (by omega) (by rw [val_limbs, val_limbs]; omega) hn, Option.bind_some, va_limbs, va_limbs, one_limbs, ref_sum (digs_limbs (q + q)) (digs_limbs 1) (by omega) (by rw [← one_limbs]; simp) hn, Option.bind_some, va_limbs, va_limbs]
          refine ⟨_, k, rfl, by omega, j + 1, r - b * 2 ^ k, q + q + 1, by rw [wadd1 (show j < 10000 by omega) (by decide)], by omega, by omega, ?_, lc⟩
          rw [e5] at p3
          have : q * (2 * (b * 2 ^ k)) = (q + q) * (b * 2 ^ k) := by grind
          rw [Nat.add_mul (q + q) 1, Nat.one_mul]
          omega
        · have : ¬ sgn (b * 2 ^ k) r ≤ 0 := fun h => hc (sgn_le.1 h)
          simp only [this, decide_false, Bool.false_eq_true, if_false, Option.bind_some]
          refine ⟨_, k, rfl, by omega, j + 1, r, q + q, by rw [wadd1 (show j < 10000 by omega) (by decide)], by omega, by omega, ?_, lc⟩
          rw [e5] at p3
          have : q * (2 * (b * 2 ^ k)) = (q + q) * (b * 2 ^ k) := by grind
          omega) N n (limbs a, limbs (b * 2 ^ N), [], 0) ⟨0, a, 0, by rw [limbs_zero]; rfl, by omega, h4, by omega, h5⟩ (by omega)
  rw [g1, Option.bind_some]
  subst g2
  have g5 : a / b = q := by
    rw [g4, Nat.mul_comm, Nat.mul_add_div hb, Nat.div_eq_of_lt g3]; rfl
  have g6 : a % b = r := by
    rw [g4, Nat.mul_comm, Nat.mul_add_mod, Nat.mod_eq_of_lt g3]
  rw [g5, g6]
theorem ref_Divide {n x y : Nat} (hx : x < LIM) (hy : y < LIM) (h0 : 0 < y) (hn : 10000 < n) : m_ref03_Divide n (limbs x) (limbs y) = some (limbs (x / y), limbs (x % y), 0) := by
  have h3 : limbs y ≠ [] := limbs_ne (by omega)
  simp [m_ref03_Divide, ref_valid_limbs hx hn, ref_valid_limbs hy hn, h3, ref_divide (n := n) (a := x) (b := y) hx hy h0 hn]
theorem ref_Gcd {n x y : Nat} (hx : x < LIM) (hy : y < LIM) (hn : 10000 < n) : m_ref03_Gcd n (limbs x) (limbs y) = some (limbs (Nat.gcd x y), 0) := by
  have h1 := lim_len.2 hx
  have h2 := lim_len.2 hy
  obtain ⟨t, q1, q2⟩ := iter_inv (σ := List Int × List Int) (f := fun s => m_ref03_Gcd_L1 n s.1 s.2)
    (I := fun k s => ∃ a b : Nat, s = (limbs a, limbs b) ∧ a < LIM ∧ b < LIM ∧ Nat.gcd a b = Nat.gcd x y ∧ ((b ≤ a ∧ a * b < 2 ^ k) ∨ k = 4097))
    (Q := fun t => t = limbs (Nat.gcd x y) ∧ t.length ≤ 128) (by
      rintro k s ⟨a, b, rfl, la, lb, hg, hk⟩
      simp only [m_ref03_Gcd_L1]
      by_cases h0 : b = 0
      · subst h0
        right
        rw [Nat.gcd_zero_right] at hg
        exact ⟨limbs a, by simp [limbs_zero], by rw [hg], lim_len.2 la⟩
      · left
        have e1 : (0 : Int) < (limbs b).length := by
          have := limbs_len0 (x := b); omega
        obtain ⟨k', p1, p2, p3⟩ := gcd_step (by omega) hk la lb
        simp only [e1, decide_true, if_true, ref_divide (n := n) la lb (show 0 < b by omega) hn, Option.bind_some]
        refine ⟨_, k', rfl, p1, b, a % b, rfl, lb, by omega, ?_, .inl ⟨p2, p3⟩⟩
        rw [← hg, Nat.gcd_comm b, ← Nat.gcd_rec, Nat.gcd_comm]) 4097 n (limbs x, limbs y) ⟨x, y, rfl, hx, hy, rfl, .inr rfl⟩ (by omega)
  obtain ⟨q2, q3⟩ := q2
  simp only [m_ref03_Gcd, ref_valid_limbs hx hn, ref_valid_limbs hy hn, Option.bind_some, Bool.not_true, Bool.not_false, if_true, Bool.or_self, Bool.false_eq_true, if_false, q1]
  rw [app_some (by decide) (by simp; omega), q2]; rfl
theorem ref_Power {n x m : Nat} (hx : x < LIM) (hm : m ≤ 1000) (hn : 10000 < n) : m_ref03_Power n (limbs x) (m : Int) = some (if x ^ m < LIM then (limbs (x ^ m), 0) else ([], 3)) := by
  unfold m_ref03_Power
  rw [ref_valid_limbs hx hn, Option.bind_some]
  have one : ([1] : List Int) = limbs (x ^ 0) := by rw [Nat.pow_zero, one_limbs]
  have lim1 : 1 < LIM := by rw [← lim_len]; exact Nat.le_trans (len_one (by decide)) (by decide)
  have e1 : ¬ (m : Int) < 0 := by omega
  have e2 : ¬ (1000 : Int) < m := by omega
  simp only [Bool.not_true, Bool.false_eq_true, if_false, e1, e2, decide_false, Bool.or_self]
  obtain ⟨t, q1, q2⟩ := iter_inv (σ := List Int × Int) (f := fun s => m_ref03_Power_L1 n (limbs x) (m : Int) s.1 s.2)
    (I := fun k s => ∃ j : Nat, s = (limbs (x ^ j), (j : Int)) ∧ j + k = m ∧ x ^ j < LIM)
    (Q := fun t => Sum.elim id (fun l => (l, 0)) t = if x ^ m < LIM then (limbs (x ^ m), 0) else (([] : List Int), (3 : Int))) (by
      rintro k s ⟨j, rfl, h1, h2⟩
      simp only [m_ref03_Power_L1]
      by_cases hk : k = 0
      · right
        have e : j = m := by omega
        subst e
        exact ⟨_, by simp; rfl, by simp [h2]⟩
      · have e3 : (j : Int) < m := by omega
        have ps : x ^ j * x = x ^ (j + 1) := (Nat.pow_succ ..).symm
        simp only [e3, decide_true, if_true, ref_Mul h2 hx hn, Option.bind_some, ps]
        by_cases hL : x ^ (j + 1) < LIM
        · left
          simp only [hL, if_true, decide_true, Bool.not_true, Bool.false_eq_true, if_false]
          exact ⟨_, k - 1, rfl, by omega, j + 1, by rw [wadd1 (show j < 1000 by omega) (by decide)], by omega, hL⟩
        · right
          simp only [hL, if_false]
          refine ⟨_, rfl, ?_⟩
          have h0 : x ≠ 0 := by
            intro h0; subst h0
            rw [Nat.zero_pow (by omega)] at hL; omega
          have := pow_le_pow (show j + 1 ≤ m by omega) h0
          rw [if_neg (by omega)]; rfl) m n ([1], 0) ⟨0, by rw [one]; rfl, by omega, by rw [Nat.pow_zero]; exact lim1⟩ (by omega)
  rw [q1, ← q2]
  cases t <;> rfl
theorem ref_Shift {n x m : Nat} (hx : x < LIM) (hm : m ≤ 2047) (hn : 10000 < n) : m_ref03_Shift n (limbs x) (m : Int) = some (if x * 2 ^ m < LIM then (limbs (x * 2 ^ m), 0) else ([], 3)) := by
  unfold m_ref03_Shift
  rw [ref_valid_limbs hx hn, Option.bind_some]
  have l1 := lim_len.2 hx
  have e1 : ¬ (m : Int) < 0 := by omega
  have e2 : ¬ (2047 : Int) < m := by omega
  simp only [Bool.not_true, Bool.false_eq_true, if_false, e1, e2, decide_false, Bool.or_self]
  have e3 : ((m : Int) / 16) = ((m / 16 : Nat) : Int) := by omega
  have e4 : ((m : Int) % 16) = ((m % 16 : Nat) : Int) := by omega
  have e5 : shlM .i64 1 ((m % 16 : Nat) : Int) = some ((2 ^ (m % 16) : Nat) : Int) := by
    have : ∀ k : Nat, k < 16 → shlM .i64 1 (k : Int) = some ((2 ^ k : Nat) : Int) := by decide +kernel
    exact this _ (Nat.mod_lt _ (by decide))
  have e6 : 2 ^ (m % 16) < 65536 := by
    have : ∀ k : Nat, k < 16 → 2 ^ k < 65536 := by decide
    exact this _ (Nat.mod_lt _ (by decide))
  have e8 : (0 : Int) ≤ ((2 ^ (m % 16) : Nat) : Int) := Int.natCast_nonneg _
  have t1 := ref_times (n := n) (a := limbs x) (b := [((2 ^ (m % 16) : Nat) : Int)]) (digs_limbs x) (digs_one (by omega)) (by omega) (by simp) hn
  rw [va_limbs, va_one, Int.toNat_natCast] at t1
  have l3 := len_mul (y := 2 ^ (m % 16)) l1 (len_one e6)
  have hv : va (List.replicate (m / 16) 0 ++ limbs (x * 2 ^ (m % 16))) = x * 2 ^ m := by
    rw [va, val_append, val_zeros, val_limbs, List.length_replicate, Int.zero_add]
    have e7 : (65536 : Int) ^ (m / 16) = ((65536 ^ (m / 16) : Nat) : Int) := by simp
    rw [e7, ← Int.natCast_mul, Int.toNat_natCast, show (65536 : Nat) = 2 ^ 16 by decide, ← Nat.pow_mul, Nat.mul_left_comm, ← Nat.pow_add, Nat.div_add_mod]
  have hd : digs (List.replicate (m / 16) 0 ++ limbs (x * 2 ^ (m % 16))) := digs_append.2 ⟨digs_zeros _, digs_limbs _⟩
  simp (disch := omega) only [quoN, remN, e3, e4, mkL_some, Option.bind_some, e5, t1, Int.toNat_natCast]
  rw [app_some (by decide) (by simp; omega), Option.bind_some, ref_limited hd (by simp; omega) hn, Option.bind_some, trim, hv]
  have : (val (List.replicate (m / 16) 0 ++ limbs (x * 2 ^ (m % 16)))).toNat = x * 2 ^ m := hv
  rw [this]
theorem bits_half {x : Nat} (h : x ≠ 0) : bits x = bits (x / 2) + 1 := by
  by_cases h1 : x = 1
  · subst h1; decide
  · simpa using bits_shr (x := x) (k := 1) (by omega)
theorem ref_Bits {n x : Nat} (h : x < LIM) (hn : 10000 < n) : m_ref03_Bits n (limbs x) = some ((bits x : Nat) : Int) := by
  unfold m_ref03_Bits
  rw [ref_valid_limbs h hn, Option.bind_some]
  have l1 := lim_len.2 h
  by_cases h0 : x = 0
  · subst h0; simp [limbs_zero, bits]
  · have l0 : (limbs x).length ≠ 0 := fun hc => h0 (limbs_len0.1 hc)
    have e0 : ¬ ((limbs x).length : Int) = 0 := by omega
    have h3 := digs_getD (digs_limbs x) ((limbs x).length - 1)
    have e1 : (((limbs x).length : Int) - 1).toNat = (limbs x).length - 1 := by omega
    simp (disch := omega) only [Bool.not_true, e0, decide_false, Bool.or_self, Bool.false_eq_true, if_false, w64, ixI, Option.bind_some, e1]
    have h4 := bits_last h0
    obtain ⟨d, hd⟩ : ∃ d : Nat, (limbs x).getD ((limbs x).length - 1) 0 = d := ⟨_, (Int.toNat_of_nonneg h3.1).symm⟩
    rw [hd] at h3 h4 ⊢
    rw [Int.toNat_natCast] at h4
    have hb16 : bits d ≤ 16 := bits_le.2 (by omega)
    obtain ⟨t, q1, q2⟩ := iter_inv (σ := Int × Int) (f := fun s => m_ref03_Bits_L1 n s.1 s.2)
      (I := fun k s => ∃ e : Nat, s.2 = e ∧ k = bits e ∧ e < 65536 ∧ 0 ≤ s.1 ∧ s.1 + bits e = bits x) (Q := fun t => t = bits x) (by
        rintro k ⟨c, j⟩ ⟨e, p1, p2, p3, p5, p4⟩
        dsimp only at p1 p4 p5
        subst p1 p2
        simp only [m_ref03_Bits_L1]
        by_cases he : e = 0
        · subst he
          right
          exact ⟨c, by simp, by simpa [bits] using p4⟩
        · left
          have := bits_half he
          have e3 : (0 : Int) < e := by omega
          have hbx : bits x ≤ 2064 := by omega
          simp (disch := omega) only [e3, decide_true, if_true, quoN, Option.bind_some, w64]
          exact ⟨_, _, rfl, by omega, e / 2, by simp, rfl, by omega, by dsimp only; omega, by dsimp only; omega⟩) (bits d) n (16 * (((limbs x).length : Int) - 1), (d : Int)) ⟨d, rfl, rfl, by omega, by dsimp only; omega, by dsimp only; omega⟩ (by omega)
    rw [q1, q2]; rfl
theorem ref_Same {n : Nat} {a b : List Int} (hl : a.length ≤ ML) (hn : a.length < n) : m_ref03_Same n a b = some (decide (a = b)) := by
  unfold m_ref03_Same
  by_cases h : a.length = b.length
  · have e : (a.length : Int) = b.length := by omega
    simp only [e, decide_true, Bool.not_true, Bool.false_eq_true, if_false]
    rcases iter_scan (f := fun s => m_ref03_Same_L1 n a b s) a.length (fun i => !decide (a.getD i 0 = b.getD i 0)) (fun _ => .inl false) (.inr ()) a.length 0 n 0 (by omega) (fun j hj => by
      simp only [m_ref03_Same_L1, show (j : Int) < a.length by omega, decide_true, if_true]
      rw [ix_get 0 hj, ix_get 0 (by omega), wadd1 hj hl]
      simp only [Option.bind_some]
      split <;> rfl) (by simp [m_ref03_Same_L1]) hn rfl with ⟨i, _, h2, h3, _, h5⟩ | ⟨h1, h2⟩
    · rw [h5]
      have : a ≠ b := by
        intro hc; subst hc; simp at h3
      simp [this]
    · rw [h2]
      have : a.drop 0 = b.drop 0 := drop_ext h (fun i _ h4 => by
        have := h1 i (by omega) h4
        simpa [-List.getD_eq_getElem?_getD] using this)
      simp only [List.drop_zero] at this
      simp [this]
  · have : a ≠ b := fun hc => h (hc ▸ rfl)
    simp [this, show ¬ (a.length : Int) = b.length by omega]
theorem same_limbs {n x y : Nat} (h : (limbs x).length ≤ 1000) (hn : 10000 < n) : m_ref03_Same n (limbs x) (limbs y) = some (decide (x = y)) := by
  rw [ref_Same (by simp only [ML]; omega) (by omega)]
  congr 1
  rw [Bool.eq_iff_iff]; simp
  exact ⟨limbs_inj, fun h => h ▸ rfl⟩
end Go.Proofs.YtagdgndoabomiaaDoor.Ab
