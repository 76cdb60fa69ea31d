/- What the program's functions on numbers compute: quotients. Conditions: none. -/
import Derived.Test.YtagdgndoabomiaaDoorNb
namespace Go.Proofs.YtagdgndoabomiaaDoor.Ab
open Go

theorem limbs_cons {d : Int} {r : Nat} (h : 0 ≤ d ∧ d < 65536) : trim (d :: limbs r) = limbs (d.toNat + 65536 * r) := by
  rw [trim, val, val_limbs]; congr 1; omega
theorem va_one {m : Int} : va [m] = m.toNat := by simp [va, val]
theorem digs_one {m : Int} (h : 0 ≤ m ∧ m < 65536) : digs [m] := digs_cons.2 ⟨h, digs_nil⟩
theorem len_mul {x y k l : Nat} (h1 : (limbs x).length ≤ k) (h2 : (limbs y).length ≤ l) : (limbs (x * y)).length ≤ k + l := by
  rw [limbs_len] at *
  rw [Nat.pow_add]
  by_cases hx : y = 0
  · subst hx; rw [Nat.mul_zero]; exact Nat.mul_pos (Nat.pow_pos (by decide)) (Nat.pow_pos (by decide))
  · exact Nat.lt_of_lt_of_le (Nat.mul_lt_mul_of_pos_right h1 (by omega)) (Nat.mul_le_mul_left _ (Nat.le_of_lt h2))
theorem len_add {x y k : Nat} (h1 : (limbs x).length ≤ k) (h2 : (limbs y).length ≤ k) : (limbs (x + y)).length ≤ k + 1 := by
  rw [limbs_len] at *
  rw [Nat.pow_succ]; omega
theorem len_one {m : Nat} (h : m < 65536) : (limbs m).length ≤ 1 := limbs_len.2 (by simpa using h)
theorem len_shift {x b k : Nat} (h : (limbs b).length ≤ k) (hx : x < b * 65536) : (limbs x).length ≤ k + 1 := by
  rw [limbs_len] at *
  rw [Nat.pow_succ]
  exact Nat.lt_trans hx (Nat.mul_lt_mul_of_pos_right h (by decide))
theorem sgn_le {x y : Nat} : sgn x y ≤ 0 ↔ x ≤ y := by unfold sgn; split <;> (try split) <;> omega

theorem nat_quotient {n r b : Nat} (hb : 0 < b) (hr : r < b * 65536) (l1 : (limbs r).length ≤ 300) (l2 : (limbs b).length ≤ 300) (hn : 100000 < n) : m_nat_quotient n (limbs r) (limbs b) = some (((r / b : Nat) : Int), limbs (r % b)) := by
  unfold m_nat_quotient
  obtain ⟨t, h1, q, h2, h3, h4, h5⟩ := iter_inv (σ := Int × Int) (f := fun s => m_nat_quotient_L1 n (limbs r) (limbs b) s.1 s.2)
    (I := fun k s => ∃ lo hi : Nat, s = ((lo : Int), (hi : Int)) ∧ lo + k = hi ∧ 0 < k ∧ hi ≤ 65536 ∧ b * lo ≤ r ∧ r < b * hi)
    (Q := fun t => ∃ q : Nat, t = q ∧ q < 65536 ∧ b * q ≤ r ∧ r < b * (q + 1)) (by
      rintro k s ⟨lo, hi, rfl, h1, h0, h2, h3, h4⟩
      simp only [m_nat_quotient_L1]
      by_cases hk : k = 1
      · right
        refine ⟨lo, ?_, lo, rfl, by omega, h3, by rw [show lo + 1 = hi by omega]; exact h4⟩
        rw [w64 (by omega) (by omega)]
        simp [show ¬ (1 : Int) < (hi : Int) - lo by omega]
      · left
        have e1 : (1 : Int) < (hi : Int) - lo := by omega
        have e2 : ((lo : Int) + hi) / 2 = (((lo + hi) / 2 : Nat) : Int) := by omega
        simp (disch := omega) only [w64, e1, decide_true, if_true, quoN, Option.bind_some, e2]
        generalize hm : (lo + hi) / 2 = m
        have t1 := nat_times (n := n) (digs_limbs b) (digs_one (m := (m : Int)) (by omega)) (by omega) (by simp) (by omega)
        rw [va_limbs, va_one, Int.toNat_natCast] at t1
        have l3 := len_mul (y := m) l2 (len_one (by omega))
        rw [t1, Option.bind_some, nat_compare (by omega) (by omega) (by omega), Option.bind_some]
        by_cases hc : b * m ≤ r
        · simp only [sgn_le.2 hc, decide_true, if_true]
          exact ⟨_, hi - m, rfl, by omega, m, hi, rfl, by omega, by omega, h2, hc, h4⟩
        · have : ¬ sgn (b * m) r ≤ 0 := fun h => hc (sgn_le.1 h)
          simp only [this, decide_false, Bool.false_eq_true, if_false]
          exact ⟨_, m - lo, rfl, by omega, lo, m, rfl, by omega, by omega, by omega, h3, by omega⟩) 65536 n (0, 65536) ⟨0, 65536, rfl, rfl, by decide, by decide, by omega, hr⟩ (by omega)
  subst h2
  have hq : r / b = q := by
    apply Nat.div_eq_of_lt_le
    · rw [Nat.mul_comm]; exact h4
    · rw [Nat.mul_comm]; exact h5
  have hmod := Nat.div_add_mod r b
  rw [hq] at hmod
  rw [h1, Option.bind_some, hq]
  by_cases h0 : q = 0
  · subst h0
    rw [Nat.mul_zero, Nat.zero_add] at hmod
    simp [hmod]
  · have e1 : ¬ ((q : Int) = 0) := by omega
    have t1 := nat_times (n := n) (digs_limbs b) (digs_one (m := (q : Int)) (by omega)) (by omega) (by simp) (by omega)
    rw [va_limbs, va_one, Int.toNat_natCast] at t1
    have l3 := len_mul (y := q) l2 (len_one (by omega))
    simp only [e1, decide_false, Bool.false_eq_true, if_false, t1, Option.bind_some]
    rw [nat_minus (digs_limbs r) (digs_limbs _) (by omega) (by rw [val_limbs, val_limbs]; omega) (by omega), va_limbs, va_limbs, Option.bind_some, show r - b * q = r % b by omega]
theorem nat_quotient_f2 {n r b : Nat} (hb : 0 < b) (hr : r < b * 65536) (l1 : (limbs r).length ≤ 300) (l2 : (limbs b).length ≤ 300) (hn : 100000 < n) : m_nat_quotient_f2 n (limbs r) (limbs b) = some (((r / b : Nat) : Int), limbs (r % b)) :=
  nat_quotient hb hr l1 l2 hn
theorem clone_int {n : Nat} {a : List Int} (h : a.length ≤ 1000) : m_slices_Clone_nat_Nat_int n a = some a := by
  unfold m_slices_Clone_nat_Nat_int
  rw [app_some (by decide) (by simp; omega)]; rfl
theorem nat_divide {n a b : Nat} (hb : 0 < b) (l1 : (limbs a).length ≤ 200) (l2 : (limbs b).length ≤ 200) (hn : 100000 < n) : m_nat_divide n (limbs a) (limbs b) = some (limbs (a / b), limbs (a % b)) := by
  unfold m_nat_divide
  have lb : 0 < (limbs b).length := by
    have := limbs_len0 (x := b); omega
  -- how many digits there are of the quotient
  obtain ⟨f, hf, hf2, hf3⟩ : ∃ f : Nat, max (IntKind.i64.wrap (IntKind.i64.wrap (((limbs a).length : Int) - (limbs b).length) + 1)) 0 = (f : Int) ∧ f ≤ (limbs a).length ∧ (limbs a).length - f < (limbs b).length := by
    have w := w64 (x := ((limbs a).length : Int) - (limbs b).length) (by omega) (by omega)
    rw [w, w64 (by omega) (by omega)]
    exact ⟨(limbs a).length + 1 - (limbs b).length, by omega, by omega, by omega⟩
  simp only [hf, m_nat_divide_L1]
  generalize hA : limbs a = A at *
  have dA : digs A := hA ▸ digs_limbs a
  have vA : val A = a := by rw [← hA, val_limbs]
  simp (disch := omega) only [mkL_some, slc_some, Option.bind_some, Int.toNat_natCast, take_all (Nat.le_refl A.length)]
  rw [clone_int (by simp; omega), Option.bind_some]
  have hR : val (A.drop f) < b := by
    have h1 := (val_bounds (digs_drop dA f)).2
    rw [List.length_drop] at h1
    refine Int.lt_of_lt_of_le h1 ?_
    have h2 : ¬ (limbs b).length ≤ A.length - f := by omega
    rw [limbs_len] at h2
    have h3 : ((65536 ^ (A.length - f) : Nat) : Int) ≤ (b : Int) := by omega
    simpa using h3
  obtain ⟨⟨tq, tr⟩, h1, h2, h3, h4, h5, h6, h7⟩ := iter_inv (σ := Int × List Int × List Int) (τ := List Int × List Int)
    (f := fun s => if decide (s.1 < (f : Int)) = true then
      (ix A (IntKind.i64.wrap (IntKind.i64.wrap ((f : Int) - 1) - s.1))).bind fun v9 =>
      (m_slices_Insert_nat_Nat_int n s.2.2 (0 : Int) ([v9] : List Int)).bind fun v10 =>
      (m_nat_trimmed_f2 n v10).bind fun v11 =>
      (m_nat_quotient_f2 n v11 (limbs b)).bind fun v12 =>
      (ix s.2.1 (IntKind.i64.wrap (IntKind.i64.wrap ((f : Int) - 1) - s.1))).bind fun v13 =>
      (setI s.2.1 (IntKind.i64.wrap (IntKind.i64.wrap ((f : Int) - 1) - s.1)) v12.1).bind fun v14 =>
      some (.inl (IntKind.i64.wrap (s.1 + 1), v14, v12.2))
    else some (.inr (s.2.1, s.2.2)))
    (I := fun k s => s.1 + k = f ∧ 0 ≤ s.1 ∧ s.2.1.length = f ∧ digs s.2.1 ∧ digs s.2.2 ∧ s.2.2.length ≤ 200 ∧ val s.2.2 < b ∧ val A = val (A.take k) + 65536 ^ k * (val (s.2.1.drop k) * b + val s.2.2))
    (Q := fun t => t.1.length = f ∧ digs t.1 ∧ digs t.2 ∧ t.2.length ≤ 200 ∧ val t.2 < b ∧ val A = val t.1 * b + val t.2) (by
      rintro k ⟨j, q, r⟩ ⟨h1, h2, h3, h4, h5, h6, h7, h8⟩
      dsimp only at h1 h2 h3 h4 h5 h6 h7 h8 ⊢
      by_cases hk : k = 0
      · subst hk
        right
        refine ⟨(q, r), by simp [show ¬ j < (f : Int) by omega], h3, h4, h5, h6, h7, ?_⟩
        simpa [val] using h8
      · left
        obtain ⟨k, rfl⟩ : ∃ m, k = m + 1 := ⟨k - 1, by omega⟩
        have e1 : j < (f : Int) := by omega
        have e2 : (f : Int) - 1 - j = (k : Int) := by omega
        have bk := digs_getD dA k
        have hins : m_slices_Insert_nat_Nat_int n r 0 [A.getD k 0] = some (A.getD k 0 :: r) := by
          simp only [m_slices_Insert_nat_Nat_int, insL]
          rw [if_pos (by omega)]; rfl
        obtain ⟨R, hR, hRb⟩ : ∃ R : Nat, val r = R ∧ R < b := ⟨(val r).toNat, by have := val_bounds h5; omega, by have := val_bounds h5; omega⟩
        have htr : trim (A.getD k 0 :: r) = limbs ((A.getD k 0).toNat + 65536 * R) := by
          rw [trim, val, hR]; congr 1; omega
        have hdg : digs (A.getD k 0 :: r) := digs_cons.2 ⟨bk, h5⟩
        generalize hX : (A.getD k 0).toNat + 65536 * R = X at htr
        have hXb : X < b * 65536 := by omega
        have lX : (limbs X).length ≤ 201 := len_shift l2 hXb
        have hq := nat_quotient_f2 (n := n) hb hXb (by omega) (by omega) hn
        have hXq : X / b < 65536 := Nat.div_lt_of_lt_mul hXb
        have hcons : (A.getD k 0 :: r).length ≤ 1000 := by simp; omega
        have hmb : X % b < b := Nat.mod_lt _ hb
        have fin : val A = val (A.take k) + 65536 ^ k * (val ((q.set k ((X / b : Nat) : Int)).drop k) * b + ((X % b : Nat) : Int)) := by
          have s1 := val_take_succ A k
          have s2 : (X : Int) = A.getD k 0 + 65536 * R := by omega
          have s3 : (X : Int) = b * ((X / b : Nat) : Int) + ((X % b : Nat) : Int) := by exact_mod_cast (Nat.div_add_mod X b).symm
          rw [drop_set_self _ (by omega), val]
          rw [s1, Int.pow_succ, hR] at h8
          clear hq hXq hcons lX hXb hdg htr hins hmb
          generalize ((X / b : Nat) : Int) = Q at *
          generalize ((X % b : Nat) : Int) = M at *
          grind
        have hq0 : (0 : Int) ≤ ((X / b : Nat) : Int) := Int.natCast_nonneg _
        have lM := Nat.le_trans (limbs_len_le (Nat.le_of_lt hmb)) l2
        clear h8
        simp (disch := omega) only [e1, decide_true, if_true, w64, e2, ixI, Option.bind_some, Int.toNat_natCast, hins, nat_trimmed_f2 hdg, htr, hq, setI_some]
        exact ⟨_, k, rfl, by omega, by dsimp only; omega, by dsimp only; omega, by simp [h3], digs_set h4 (by omega) (by omega), digs_limbs _, lM, by rw [val_limbs]; omega, by rw [val_limbs]; exact fin⟩) f n (0, List.replicate f 0, A.drop f) ⟨by simp, by simp, by simp, digs_zeros _, digs_drop dA f, by simp; omega, hR, by
            have := val_split A f (by omega)
            have z : val ((List.replicate f (0 : Int)).drop f) = 0 := by simp [val]
            dsimp only
            rw [z]; grind⟩ (by omega)
  rw [h1, Option.bind_some]
  dsimp only at h2 h3 h4 h5 h6 h7 ⊢
  rw [nat_trimmed_f2 h3 (by omega) (by omega), nat_trimmed_f2 h4 (by omega) (by omega), Option.bind_some, Option.bind_some, trim, trim]
  have g1 := va_nn h3
  have g2 := va_nn h4
  have g3 : a = va tq * b + va tr := by
    rw [← g1, ← g2, vA] at h7
    exact_mod_cast h7
  have g4 : va tr < b := by omega
  have g5 : a / b = va tq := by
    rw [g3, Nat.mul_comm, Nat.mul_add_div hb, Nat.div_eq_of_lt g4]; rfl
  have g6 : a % b = va tr := by
    rw [g3, Nat.mul_comm, Nat.mul_add_mod, Nat.mod_eq_of_lt g4]
  rw [g5, g6]
end Go.Proofs.YtagdgndoabomiaaDoor.Ab
