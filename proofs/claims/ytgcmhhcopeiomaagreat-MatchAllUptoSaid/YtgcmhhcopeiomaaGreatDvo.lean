/- Plain theory, joined. Conditions: none. -/
import Derived.Test.YtgcmhhcopeiomaaGreatMi
import Derived.Test.YtgcmhhcopeiomaaGreatNt
set_option maxRecDepth 100000
namespace Go.Proofs.YtgcmhhcopeiomaaGreat.Ab
open Go
section
open Go
theorem nat_Valid {n : Nat} {a : List Int} (hl : a.length ≤ ML) (hn : a.length < n) : m_nat_Valid n a = some (vld a) := by
  have h2 : m_slices_ContainsFunc_nat_Nat_int n a (fun y1 => m_nat_Valid_1 n y1) = some (a.any fun d => decide (d < 0) || decide (65536 ≤ d)) :=
    contains_loop n a (fun y1 => m_nat_Valid_1 n y1) (fun d => decide (d < 0) || decide (65536 ≤ d)) (fun x _ => rfl) hl hn
  unfold m_nat_Valid
  by_cases h : a.length ≤ 128
  · have h1 : ¬ (128 : Int) < a.length := by omega
    simp only [h1, decide_false, Bool.not_false, if_true, Bool.false_or, h2, Option.bind_some]
    have h3 : (a.any fun d => decide (d < 0) || decide (65536 ≤ d)) = !(a.all fun d => decide (0 ≤ d) && decide (d < 65536)) := by
      rw [List.not_all_eq_any_not]
      congr 1; funext d
      rw [Bool.eq_iff_iff]; simp
    rw [h3]
    cases h4 : a.all fun d => decide (0 ≤ d) && decide (d < 65536) with
    | false => simp [vld, h4]
    | true =>
      simp only [vld, h, h4, Bool.not_true, Bool.false_eq_true, if_false, decide_true, Bool.true_and]
      by_cases h5 : a.length = 0
      · simp [h5]
      · have h6 : ¬ (a.length : Int) = 0 := by omega
        simp only [h6, h5, decide_false, Bool.not_false, if_true, Bool.false_or]
        rw [w64 (by omega) (by omega), ixI (by omega) (by omega)]
        rw [show ((a.length : Int) - 1).toNat = a.length - 1 by omega]
        rfl
  · have h1 : (128 : Int) < a.length := by omega
    simp [h1, vld, h]
theorem cmp_int {n : Nat} {a b : Int} : m_cmp_Compare_int n a b = some (if a < b then -1 else if a = b then 0 else 1) := by
  unfold m_cmp_Compare_int m_cmp_isNaN_int
  by_cases h1 : a < b
  · simp [h1]
  · by_cases h2 : a = b
    · simp [h2]
    · simp [h1, h2, show b < a by omega]
theorem nat_compare {n x y : Nat} (hx : (limbs x).length ≤ 1000) (hy : (limbs y).length ≤ 1000) (hn : 10000 < n) : m_nat_compare n (limbs x) (limbs y) = some (sgn x y) := by
  unfold m_nat_compare
  by_cases hl : (limbs x).length = (limbs y).length
  · have e : ((limbs x).length : Int) = (limbs y).length := by omega
    simp only [e, decide_true, Bool.not_true, Bool.false_eq_true, if_false]
    generalize ha : limbs x = a at *
    generalize hb : limbs y = b at *
    have da : digs a := ha ▸ digs_limbs x
    have db : digs b := hb ▸ digs_limbs y
    have vx : val a = x := by rw [← ha, val_limbs]
    have vy : val b = y := by rw [← hb, val_limbs]
    obtain ⟨t, h1, h2⟩ := iter_inv (f := fun s => m_nat_compare_L1 n a b s) (I := fun k s => (k : Int) = a.length - s ∧ 0 ≤ s ∧ ∀ i, k ≤ i → i < a.length → a.getD i 0 = b.getD i 0)
      (Q := fun t => Sum.elim id (fun _ => 0) t = sgn x y) (fun k s ⟨h1, h2, h3⟩ => by
        simp only [m_nat_compare_L1]
        by_cases hk : k = 0
        · subst hk
          right
          refine ⟨.inr (), by simp [show ¬ s < (a.length : Int) by omega], ?_⟩
          have := drop_ext hl h3
          simp only [List.drop_zero] at this
          subst this
          have : x = y := by omega
          subst this
          simp [sgn]
        · have e1 : s < (a.length : Int) := by omega
          have e2 : ((a.length : Int) - 1 - s) = ((k - 1 : Nat) : Int) := by omega
          simp (disch := omega) only [e1, decide_true, if_true, w64, e2, ixI, Option.bind_some, Int.toNat_natCast]
          by_cases hd : a.getD (k - 1) 0 = b.getD (k - 1) 0
          · left
            refine ⟨s + 1, k - 1, by simp only [hd, decide_true, Bool.not_true, Bool.false_eq_true, if_false], by omega, by omega, by omega, fun i q1 q2 => ?_⟩
            by_cases hi : i = k - 1
            · subst hi; exact hd
            · exact h3 i (by omega) q2
          · right
            have hdr : a.drop (k - 1 + 1) = b.drop (k - 1 + 1) := drop_ext hl (fun i q1 q2 => h3 i (by omega) q2)
            rw [cmp_int]
            refine ⟨.inl (if a.getD (k - 1) 0 < b.getD (k - 1) 0 then -1 else if a.getD (k - 1) 0 = b.getD (k - 1) 0 then 0 else 1), by simp only [hd, decide_false, Bool.not_false, if_true, Option.bind_some], ?_⟩
            simp only [hd, if_false, Sum.elim_inl, id]
            by_cases hlt : a.getD (k - 1) 0 < b.getD (k - 1) 0
            · have := val_lt_of da db (k := k - 1) (by omega) hl hdr hlt
              simp only [hlt, if_true, sgn, show x < y by omega]
            · have := val_lt_of db da (k := k - 1) (by omega) hl.symm hdr.symm (by omega)
              simp only [hlt, if_false, sgn, show ¬ x < y by omega, show ¬ x = y by omega]) a.length n 0 ⟨by omega, by omega, fun i q1 q2 => by omega⟩ (by omega)
    rw [h1]
    cases t with
    | inl u => exact congrArg some h2
    | inr u => exact congrArg some h2
  · have e : ¬ ((limbs x).length : Int) = (limbs y).length := by omega
    simp only [e, decide_false, Bool.not_false, if_true, cmp_int, if_false, Option.bind_some]
    by_cases h1 : (limbs x).length < (limbs y).length
    · have := sgn_len h1
      simp [sgn, this, h1]
    · have := sgn_len (x := y) (y := x) (by omega)
      simp [sgn, show ¬ x < y by omega, show ¬ x = y by omega, h1]
theorem nat_Compare {n x y : Nat} (hx : x < LIM) (hy : y < LIM) (hn : 10000 < n) : m_nat_Compare n (limbs x) (limbs y) = some (sgn x y) := by
  have h1 := lim_len.2 hx
  have h2 := lim_len.2 hy
  simp [m_nat_Compare, nat_Valid (n := n) (a := limbs x) (by simp only [ML]; omega) (by omega), nat_Valid (n := n) (a := limbs y) (by simp only [ML]; omega) (by omega), vld_limbs hx, vld_limbs hy, nat_compare (n := n) (x := x) (y := y) (by omega) (by omega) hn]
theorem nat_trimmed {n : Nat} {a : List Int} (h : digs a) (hl : a.length ≤ 1000) (hn : 10000 < n) : m_nat_trimmed n a = some (trim a) := by
  unfold m_nat_trimmed
  obtain ⟨t, h1, h2⟩ := iter_inv (f := fun s => m_nat_trimmed_L1 n s) (I := fun k s => k = s.length ∧ k ≤ 1000 ∧ digs s ∧ trim s = trim a) (Q := fun t => t = trim a) (fun k s ⟨h1, h2, h3, h4⟩ => by
    subst h1
    simp only [m_nat_trimmed_L1]
    by_cases h0 : s.length = 0
    · right
      refine ⟨s, by simp [h0], by rw [← h4, trim_end h3 (.inl h0)]⟩
    · have e1 : (0 : Int) < s.length := by omega
      have e2 : ((s.length : Int) - 1).toNat = s.length - 1 := by omega
      simp (disch := omega) only [e1, decide_true, if_true, w64, ixI, Option.bind_some, Bool.true_and, e2, slc_some]
      by_cases hz : s.getD (s.length - 1) 0 = 0
      · left
        refine ⟨s.take (s.length - 1), s.length - 1, by simp [-List.getD_eq_getElem?_getD, hz], by omega, by simp, by omega, digs_take h3 _, by rw [trim_zero h0 hz, h4]⟩
      · right
        exact ⟨s, by simp [-List.getD_eq_getElem?_getD, hz], by rw [← h4, trim_end h3 (.inr hz)]⟩) a.length n a ⟨rfl, hl, h, rfl⟩ (by omega)
  rw [h1, h2]; rfl
theorem nat_trimmed_f2 {n : Nat} {a : List Int} (h : digs a) (hl : a.length ≤ 1000) (hn : 10000 < n) : m_nat_trimmed_f2 n a = some (trim a) := by
  rw [← nat_trimmed (n := n) h hl hn]
  unfold m_nat_trimmed_f2 m_nat_trimmed
  congr 2
  funext s
  unfold m_nat_trimmed_f2_L1 m_nat_trimmed_L1
  split
  · cases ix s (IntKind.i64.wrap ((s.length : Int) - 1)) <;> rfl
  · rfl
end
section
open Go
/-- One digit's row of a product, where the digits are read from lists of numbers. -/
theorem times_step {u b : List Int} {x cr V : Int} {i c lu : Nat} (hx : 0 ≤ x ∧ x < 65536) (hb : digs b) (hu : digs u) (hc : 0 ≤ cr ∧ cr < 65536) (hlen : u.length = lu) (h : i + b.length ≤ lu) (hcb : c < b.length)
    (h6 : val (u.take (i + b.length)) + cr * 65536 ^ (i + c) = V + x * val (b.take c) * 65536 ^ i) :
    let T := cr + (u.getD (i + c) 0 + x * b.getD c 0)
    (0 ≤ T ∧ T ≤ 4294967295) ∧ (0 ≤ x * b.getD c 0 ∧ x * b.getD c 0 ≤ 4294836225) ∧ (0 ≤ u.getD (i + c) 0 + x * b.getD c 0 ∧ u.getD (i + c) 0 + x * b.getD c 0 ≤ 4294901760) ∧
    (0 ≤ T / 65536 ∧ T / 65536 < 65536) ∧ (u.set (i + c) (T % 65536)).length = lu ∧ digs (u.set (i + c) (T % 65536)) ∧
    val ((u.set (i + c) (T % 65536)).take (i + b.length)) + T / 65536 * 65536 ^ (i + (c + 1)) = V + x * val (b.take (c + 1)) * 65536 ^ i := by
  intro T
  have b2 := digs_getD hb c
  have b3 := digs_getD hu (i + c)
  have b4 := mul_small hx b2
  have hT : 0 ≤ T ∧ T ≤ 4294967295 := ⟨by omega, by omega⟩
  refine ⟨hT, b4, ⟨by omega, by omega⟩, ⟨by omega, by omega⟩, by simp [hlen], digs_set hu (by omega) (by omega), ?_⟩
  have s2 := val_take_succ b c
  rw [val_take_set _ (by omega) (by omega), ← Nat.add_assoc, Int.pow_succ, s2]
  have e4 := Int.mul_ediv_add_emod T 65536
  have e5 : (65536 : Int) ^ (i + c) = 65536 ^ i * 65536 ^ c := Int.pow_add ..
  have e6 : T = cr + (u.getD (i + c) 0 + x * b.getD c 0) := rfl
  generalize T / 65536 = Q at *
  generalize T % 65536 = R at *
  rw [e5] at h6 ⊢
  clear hT b4 b3 b2 hcb h hlen hc hu hb hx s2 e5
  generalize T = T at *
  grind
theorem nat_times_row {n : Nat} {b o : List Int} {x : Int} {i lo : Nat} (hx : 0 ≤ x ∧ x < 65536) (hb : digs b) (ho : digs o) (hl2 : b.length ≤ 400) (hi : i ≤ 400) (hlo : o.length = lo) (h : i + b.length ≤ lo) (hn : 10000 < n) :
    ∃ t, iter n (fun s => m_nat_times_L2 n b (i : Int) x s.1 s.2.1 s.2.2) (0, 0, o) = some t ∧ (0 ≤ t.1 ∧ t.1 < 65536) ∧ t.2.length = lo ∧ digs t.2 ∧ val (t.2.take (i + b.length)) + t.1 * 65536 ^ (i + b.length) = val (o.take (i + b.length)) + x * val b * 65536 ^ i := by
  refine iter_inv (σ := Int × Int × List Int) (Q := fun t : Int × List Int => (0 ≤ t.1 ∧ t.1 < 65536) ∧ t.2.length = lo ∧ digs t.2 ∧ val (t.2.take (i + b.length)) + t.1 * 65536 ^ (i + b.length) = val (o.take (i + b.length)) + x * val b * 65536 ^ i)
    (I := fun m s => ∃ c : Nat, s.2.1 = c ∧ c + m = b.length ∧ (0 ≤ s.1 ∧ s.1 < 65536) ∧ s.2.2.length = lo ∧ digs s.2.2 ∧ val (s.2.2.take (i + b.length)) + s.1 * 65536 ^ (i + c) = val (o.take (i + b.length)) + x * val (b.take c) * 65536 ^ i) (fun m s ⟨c, g1, g2, g3, g4, g5, g6⟩ => ?_)
    b.length n (0, 0, o) ⟨0, rfl, by omega, ⟨by omega, by omega⟩, hlo, ho, by simp [val]⟩ (by omega)
  obtain ⟨cr, j, u⟩ := s
  dsimp only at g1 g3 g4 g5 g6
  subst g1
  simp only [m_nat_times_L2]
  by_cases hm : m = 0
  · right
    have e0 : c = b.length := by omega
    refine ⟨(cr, u), by simp [e0], g3, g4, g5, ?_⟩
    rw [e0, take_all (Nat.le_refl b.length)] at g6
    exact g6
  · left
    obtain ⟨r1, r2, r3, r4, r5, r6, r7⟩ := times_step hx hb g5 g3 g4 h (by omega) g6
    have e2 : (c : Int) < b.length := by omega
    have e3 : ((i : Int) + c) = ((i + c : Nat) : Int) := by omega
    clear g6 g5 ho hb hx
    have hcl : (i + c) < u.length := by omega
    simp (disch := omega) only [e2, decide_true, if_true, w64, e3, ixI, Option.bind_some, Int.toNat_natCast, remN, quoN, setI_some]
    exact ⟨_, m - 1, rfl, by omega, c + 1, by simp, by omega, r4, r5, r6, r7⟩
theorem nat_times {n : Nat} {a b : List Int} (ha : digs a) (hb : digs b) (hl : a.length ≤ 400) (hl2 : b.length ≤ 400) (hn : 10000 < n) : m_nat_times n a b = some (limbs (va a * va b)) := by
  unfold m_nat_times
  have e0 : ((a.length : Int) + b.length).toNat = a.length + b.length := by omega
  simp (disch := omega) only [mkL_some, Option.bind_some, w64, e0]
  obtain ⟨t, h1, h2, h3, h4⟩ := iter_inv (σ := Int × List Int) (f := fun s => m_nat_times_L1 n a b s.1 s.2)
    (I := fun k s => ∃ i : Nat, s.1 = i ∧ i + k = a.length ∧ s.2.length = a.length + b.length ∧ digs s.2 ∧ val (s.2.take (i + b.length)) = val (a.take i) * val b)
    (Q := fun t => t.length = a.length + b.length ∧ digs t ∧ val t = val a * val b) (by
      rintro k ⟨j, o⟩ ⟨i, h1, h2, h4, h5, h6⟩
      dsimp only at h1 h4 h5 h6
      subst h1
      simp only [m_nat_times_L1]
      by_cases hk : k = 0
      · right
        have e0 : i = a.length := by omega
        refine ⟨o, by simp [e0], h4, h5, ?_⟩
        rw [e0, take_all (by omega), take_all (by omega)] at h6
        exact h6
      · left
        have e1 : (i : Int) < a.length := by omega
        obtain ⟨t, q1, q2, q3, q4, q5⟩ := nat_times_row (n := n) (i := i) (x := a.getD i 0) (digs_getD ha i) hb h5 hl2 (by omega) h4 (by omega) hn
        have e4 : ((i : Int) + b.length) = ((i + b.length : Nat) : Int) := by omega
        simp (disch := omega) only [e1, decide_true, if_true, ixI, Option.bind_some, Int.toNat_natCast, q1, e4, w64, setI_some]
        refine ⟨_, k - 1, rfl, by omega, i + 1, rfl, by omega, by simp [q3], digs_set q4 q2.1 q2.2, ?_⟩
        have s1 := val_take_succ a i
        rw [show i + 1 + b.length = i + b.length + 1 by omega, val_take_set_succ _ (by omega), s1]
        clear ha hb h4 h2 hk e1 e4 q1 q2 q3 q4 h5 s1
        grind) a.length n (0, List.replicate (a.length + b.length) 0) ⟨0, rfl, by omega, by simp, digs_zeros _, by simp [val, val_zeros]⟩ (by omega)
  simp only [h1, Option.bind_some, nat_trimmed_f2 h3 (by omega) hn, nat_trimmed h3 (by omega) hn, trim, h4]
  congr 2
  rw [← va_nn ha, ← va_nn hb]; rfl
end
section
open Go
theorem va_one {m : Int} : va [m] = m.toNat := by simp [va, val]
theorem digs_one {m : Int} (h : 0 ≤ m ∧ m < 65536) : digs [m] := digs_cons.2 ⟨h, digs_nil⟩
theorem len_mul {x y k l : Nat} (h1 : (limbs x).length ≤ k) (h2 : (limbs y).length ≤ l) : (limbs (x * y)).length ≤ k + l := by
  rw [limbs_len] at *
  rw [Nat.pow_add]
  by_cases hx : y = 0
  · subst hx; rw [Nat.mul_zero]; exact Nat.mul_pos (Nat.pow_pos (by decide)) (Nat.pow_pos (by decide))
  · exact Nat.lt_of_lt_of_le (Nat.mul_lt_mul_of_pos_right h1 (by omega)) (Nat.mul_le_mul_left _ (Nat.le_of_lt h2))
theorem len_add {x y k : Nat} (h1 : (limbs x).length ≤ k) (h2 : (limbs y).length ≤ k) : (limbs (x + y)).length ≤ k + 1 := by
  rw [limbs_len] at *
  rw [Nat.pow_succ]; omega
theorem len_one {m : Nat} (h : m < 65536) : (limbs m).length ≤ 1 := limbs_len.2 (by simpa using h)
theorem sgn_le {x y : Nat} : sgn x y ≤ 0 ↔ x ≤ y := by unfold sgn; split <;> (try split) <;> omega
end
section
open Go
theorem nat_limited {n : Nat} {a : List Int} (h : digs a) (hl : a.length ≤ 1000) (hn : 10000 < n) : m_nat_limited n a = some (if va a < LIM then (trim a, 0) else ([], 3)) := by
  unfold m_nat_limited
  simp only [nat_trimmed h hl hn, nat_trimmed_f2 h hl hn, Option.bind_some]
  by_cases hx : va a < LIM
  · have := lim_len.2 hx
    simp [trim, hx, show ¬ (128 : Int) < ((limbs (va a)).length : Int) by omega]
  · have := lim_len'.2 hx
    simp [trim, hx, show (128 : Int) < ((limbs (va a)).length : Int) by omega]
theorem trim_limbs {x : Nat} : trim (limbs x) = limbs x := by rw [trim, val_limbs]; rfl
theorem valid_limbs {n x : Nat} (h : x < LIM) (hn : 10000 < n) : m_nat_Valid n (limbs x) = some true := by
  have := lim_len.2 h
  rw [nat_Valid (by simp only [ML]; omega) (by omega), vld_limbs h]
theorem nat_Mul {n x y : Nat} (hx : x < LIM) (hy : y < LIM) (hn : 10000 < n) : m_nat_Mul n (limbs x) (limbs y) = some (if x * y < LIM then (limbs (x * y), 0) else ([], 3)) := by
  have h1 := lim_len.2 hx
  have h2 := lim_len.2 hy
  have h3 := len_mul h1 h2
  simp [m_nat_Mul, valid_limbs hx hn, valid_limbs hy hn, nat_times (n := n) (digs_limbs x) (digs_limbs y) (by omega) (by omega) hn, va_limbs, nat_limited (n := n) (digs_limbs (x * y)) (by omega) hn, trim_limbs]
theorem lim_bits : LIM * LIM = 2 ^ 4096 := by
  decide +kernel
/-- Euclid's steps, with what they leave. -/
theorem gcd_step {a b k : Nat} (hb : 0 < b) (h : (b ≤ a ∧ a * b < 2 ^ k) ∨ k = 4097) (la : a < LIM) (lb : b < LIM) : ∃ k', k' < k ∧ (a % b ≤ b ∧ b * (a % b) < 2 ^ k') := by
  have hm := Nat.mod_lt a hb
  rcases h with ⟨h1, h2⟩ | h
  · cases k with
    | zero =>
      have := Nat.mul_le_mul h1 (show 1 ≤ b from hb)
      have : 1 ≤ a * b := Nat.mul_pos (by omega) hb
      omega
    | succ k =>
      refine ⟨k, by omega, by omega, ?_⟩
      have h3 := Nat.div_add_mod a b
      have h4 : 1 ≤ a / b := (Nat.one_le_div_iff hb).2 h1
      have h5 : b * 1 ≤ b * (a / b) := Nat.mul_le_mul_left b h4
      have h6 : b * (2 * (a % b)) ≤ b * a := Nat.mul_le_mul_left b (by omega)
      rw [Nat.pow_succ] at h2
      have h7 : b * (2 * (a % b)) = 2 * (b * (a % b)) := by grind
      rw [Nat.mul_comm a b] at h2
      omega
  · refine ⟨4096, by omega, by omega, ?_⟩
    rw [← lim_bits]
    exact Nat.mul_lt_mul_of_lt_of_le lb (by omega) (by omega)
theorem limbs_snoc {l : List Int} {m : Nat} (h : m ≠ 0) : l ++ limbs m = (l ++ [((m % 65536 : Nat) : Int)]) ++ limbs (m / 65536) := by
  rw [limbs_pos h]; simp
theorem nat_small {n x : Nat} (h : x ≤ 9223372036854775807) (hn : 100 < n) : m_nat_small n (x : Int) = some (limbs x) := by
  unfold m_nat_small
  obtain ⟨t, q1, q2⟩ := iter_inv (σ := Int × List Int) (f := fun s => m_nat_small_L1 n s.1 s.2)
    (I := fun k s => ∃ m : Nat, s.1 = m ∧ m < 65536 ^ k ∧ m ≤ 9223372036854775807 ∧ k ≤ 4 ∧ s.2.length + k ≤ 4 ∧ s.2 ++ limbs m = limbs x)
    (Q := fun t => t = limbs x) (by
      rintro k ⟨j, l⟩ ⟨m, h1, h2, h3, h4, h5, h6⟩
      dsimp only at h1 h5 h6 ⊢
      subst h1
      simp only [m_nat_small_L1]
      by_cases h0 : m = 0
      · subst h0
        right
        refine ⟨l, by simp, ?_⟩
        rw [limbs_zero, List.append_nil] at h6; exact h6
      · left
        cases k with
        | zero => simp at h2; omega
        | succ k =>
          have e1 : (0 : Int) < m := by omega
          simp (disch := omega) only [e1, decide_true, if_true, remN, quoN, Option.bind_some]
          rw [app_some (by decide) (by simp; omega), Option.bind_some]
          refine ⟨_, k, rfl, by omega, m / 65536, by simp, ?_, by omega, by omega, by simp; omega, ?_⟩
          · rw [Nat.pow_succ] at h2
            exact Nat.div_lt_of_lt_mul (by rw [Nat.mul_comm]; exact h2)
          · rw [limbs_snoc h0] at h6
            simpa using h6) 4 n ((x : Int), []) ⟨x, rfl, by omega, h, by omega, by simp, rfl⟩ (by omega)
  rw [q1, q2]; rfl
theorem nat_Of {n x : Nat} (h : x ≤ 9223372036854775807) (hn : 100 < n) : m_nat_Of n (x : Int) = some (limbs x, 0) := by
  simp [m_nat_Of, nat_small h hn]
/-- How many binary digits a number has. -/
def bits (x : Nat) : Nat := if x = 0 then 0 else Nat.log2 x + 1
theorem bits_le {x k : Nat} : bits x ≤ k ↔ x < 2 ^ k := by
  unfold bits
  by_cases h : x = 0
  · subst h; simp [Nat.pow_pos]
  · rw [if_neg h]
    exact (Nat.log2_lt h)
theorem bits_mul_pow {d k : Nat} {r : Nat} (hd : d ≠ 0) (hr : r < 2 ^ k) : bits (r + 2 ^ k * d) = k + bits d := by
  apply Nat.le_antisymm
  · rw [bits_le, Nat.pow_add]
    have h1 : d < 2 ^ bits d := bits_le.1 (Nat.le_refl _)
    have h2 := Nat.mul_le_mul_left (2 ^ k) (show d + 1 ≤ 2 ^ bits d from h1)
    rw [Nat.mul_add] at h2; omega
  · have h0 : 0 < bits d := by
      simp [bits, hd]
    refine Nat.le_of_not_lt fun hc => ?_
    have h1 : ¬ bits d ≤ bits d - 1 := by omega
    rw [bits_le] at h1
    have h2 : bits (r + 2 ^ k * d) ≤ k + (bits d - 1) := by omega
    rw [bits_le, Nat.pow_add] at h2
    have h3 := Nat.mul_le_mul_left (2 ^ k) (show 2 ^ (bits d - 1) ≤ d by omega)
    omega
theorem bits_last {x : Nat} (h : x ≠ 0) : bits x = 16 * ((limbs x).length - 1) + bits ((limbs x).getD ((limbs x).length - 1) 0).toNat := by
  have h1 := val_take_succ (limbs x) ((limbs x).length - 1)
  have h0 : (limbs x).length ≠ 0 := fun hc => h (limbs_len0.1 hc)
  rw [show (limbs x).length - 1 + 1 = (limbs x).length by omega, take_all (Nat.le_refl _), val_limbs] at h1
  have h2 := val_bounds (digs_take (digs_limbs x) ((limbs x).length - 1))
  rw [List.length_take, Nat.min_eq_left (by omega)] at h2
  have h3 := digs_getD (digs_limbs x) ((limbs x).length - 1)
  have h4 := limbs_last h
  generalize (limbs x).getD ((limbs x).length - 1) 0 = d at *
  generalize val ((limbs x).take ((limbs x).length - 1)) = r at *
  generalize (limbs x).length - 1 = k at *
  have e : x = r.toNat + 2 ^ (16 * k) * d.toNat := by
    have e1 : (2 : Int) ^ (16 * k) = 65536 ^ k := by rw [Int.pow_mul]; rfl
    have e2 : (x : Int) = ((r.toNat + 2 ^ (16 * k) * d.toNat : Nat) : Int) := by
      rw [Int.natCast_add, Int.natCast_mul, Int.natCast_pow, Int.toNat_of_nonneg h2.1, Int.toNat_of_nonneg h3.1]
      show (x : Int) = r + 2 ^ (16 * k) * d
      rw [e1]; exact h1
    exact Int.ofNat_inj.1 e2
  rw [e]
  refine bits_mul_pow (by omega) ?_
  have e1 : (2 : Nat) ^ (16 * k) = 65536 ^ k := by rw [Nat.pow_mul]
  have e3 : ((65536 ^ k : Nat) : Int) = (65536 : Int) ^ k := by simp
  rw [e1]; omega
theorem bits_shr {x k : Nat} (h : 2 ^ k ≤ x) : bits x = bits (x / 2 ^ k) + k := by
  have h1 := Nat.div_add_mod x (2 ^ k)
  have hp : 0 < 2 ^ k := Nat.pow_pos (by decide)
  have h2 := bits_mul_pow (d := x / 2 ^ k) (k := k) (r := x % 2 ^ k) (by
    have := Nat.div_pos h hp; omega) (Nat.mod_lt _ hp)
  rw [show x % 2 ^ k + 2 ^ k * (x / 2 ^ k) = x by omega] at h2
  omega
def len8 : List UInt8 := [0, 1, 2, 2, 3, 3, 3, 3, 4, 4, 4, 4, 4, 4, 4, 4, 5, 5, 5, 5, 5, 5, 5, 5, 5, 5, 5, 5, 5, 5, 5, 5, 6, 6, 6, 6, 6, 6, 6, 6, 6, 6, 6, 6, 6, 6, 6, 6, 6, 6, 6, 6, 6, 6, 6, 6, 6, 6, 6, 6, 6, 6, 6, 6, 7, 7, 7, 7, 7, 7, 7, 7, 7, 7, 7, 7, 7, 7, 7, 7, 7, 7, 7, 7, 7, 7, 7, 7, 7, 7, 7, 7, 7, 7, 7, 7, 7, 7, 7, 7, 7, 7, 7, 7, 7, 7, 7, 7, 7, 7, 7, 7, 7, 7, 7, 7, 7, 7, 7, 7, 7, 7, 7, 7, 7, 7, 7, 7, 8, 8, 8, 8, 8, 8, 8, 8, 8, 8, 8, 8, 8, 8, 8, 8, 8, 8, 8, 8, 8, 8, 8, 8, 8, 8, 8, 8, 8, 8, 8, 8, 8, 8, 8, 8, 8, 8, 8, 8, 8, 8, 8, 8, 8, 8, 8, 8, 8, 8, 8, 8, 8, 8, 8, 8, 8, 8, 8, 8, 8, 8, 8, 8, 8, 8, 8, 8, 8, 8, 8, 8, 8, 8, 8, 8, 8, 8, 8, 8, 8, 8, 8, 8, 8, 8, 8, 8, 8, 8, 8, 8, 8, 8, 8, 8, 8, 8, 8, 8, 8, 8, 8, 8, 8, 8, 8, 8, 8, 8, 8, 8, 8, 8, 8, 8, 8, 8, 8, 8, 8, 8, 8, 8, 8, 8, 8, 8]
theorem len8_bits : ∀ i : Nat, i < 256 → ixS len8 (i : Int) = some ((bits i : Nat) : Int) := by decide +kernel
theorem wrap_u8 {x : Int} (h1 : 0 ≤ x) (h2 : x < 256) : IntKind.u8.wrap x = x := by simp [IntKind.wrap, IntKind.signed, IntKind.bits]; omega
theorem wrap_u64 {x : Int} (h1 : 0 ≤ x) (h2 : x < 18446744073709551616) : IntKind.u64.wrap x = x := by simp [IntKind.wrap, IntKind.signed, IntKind.bits]; omega
set_option maxRecDepth 100000 in
theorem len_small {n x : Nat} (h : x < 65536) : m_math_bits_Len n (x : Int) = some ((bits x : Nat) : Int) := by
  unfold m_math_bits_Len m_math_bits_Len64
  have e1 : ¬ (4294967296 : Int) ≤ x := by omega
  have e2 : ¬ (65536 : Int) ≤ x := by omega
  simp only [e1, e2, decide_false, Bool.false_eq_true, if_false, Option.bind_some]
  by_cases h3 : (256 : Int) ≤ x
  · have e4 : shrM .u64 (x : Int) 8 = some (((x / 256 : Nat)) : Int) := by
      unfold shrM
      rw [if_neg (by decide)]
      show some ((x : Int).fdiv 256) = _
      rw [Int.fdiv_eq_ediv_of_nonneg _ (by decide)]; rfl
    have e5 := bits_shr (x := x) (k := 8) (by omega)
    rw [show (2 : Nat) ^ 8 = 256 by decide] at e5
    have e6 := len8_bits (x / 256) (by omega)
    have e7 : bits (x / 256) ≤ 8 := bits_le.2 (by omega)
    have e8 := wrap_u8 (x := ((x / 256 : Nat) : Int)) (by omega) (by omega)
    simp only [h3, decide_true, if_true, e4, Option.bind_some, e8]
    simp only [len8] at e6
    rw [e6]
    simp (disch := omega) only [Option.bind_some, w64]
    congr 1; omega
  · have e6 := len8_bits x (by omega)
    have e7 : bits x ≤ 8 := bits_le.2 (by omega)
    have e8 := wrap_u8 (x := (x : Int)) (by omega) (by omega)
    simp only [h3, decide_false, Bool.false_eq_true, if_false, Option.bind_some, e8]
    simp only [len8] at e6
    rw [e6]
    simp (disch := omega) only [Option.bind_some, w64]
    congr 1; omega
theorem nat_Bits {n x : Nat} (h : x < LIM) (hn : 10000 < n) : m_nat_Bits n (limbs x) = some ((bits x : Nat) : Int) := by
  unfold m_nat_Bits
  rw [valid_limbs h hn, Option.bind_some]
  have l1 := lim_len.2 h
  by_cases h0 : x = 0
  · subst h0; simp [limbs_zero, bits]
  · have l0 : (limbs x).length ≠ 0 := fun hc => h0 (limbs_len0.1 hc)
    have e0 : ¬ ((limbs x).length : Int) = 0 := by omega
    have h3 := digs_getD (digs_limbs x) ((limbs x).length - 1)
    have e1 : (((limbs x).length : Int) - 1).toNat = (limbs x).length - 1 := by omega
    simp (disch := omega) only [Bool.not_true, e0, decide_false, Bool.or_self, Bool.false_eq_true, if_false, w64, ixI, Option.bind_some, e1]
    rw [wrap_u64 h3.1 (by omega)]
    have h4 := bits_last h0
    obtain ⟨d, hd⟩ : ∃ d : Nat, (limbs x).getD ((limbs x).length - 1) 0 = d := ⟨_, (Int.toNat_of_nonneg h3.1).symm⟩
    rw [hd] at h3 h4 ⊢
    rw [len_small (by omega)]
    have h5 : bits d ≤ 16 := bits_le.2 (by omega)
    rw [Int.toNat_natCast] at h4
    simp (disch := omega) only [Option.bind_some, w64]
    congr 1; omega
/-- Powers up to the limit. -/
theorem pow_le_pow {x j m : Nat} (h : j ≤ m) (hx : x ≠ 0) : x ^ j ≤ x ^ m := Nat.pow_le_pow_right (by omega) h
theorem nat_Power {n x m : Nat} (hx : x < LIM) (hm : m ≤ 1000) (hn : 10000 < n) : m_nat_Power n (limbs x) (m : Int) = some (if x ^ m < LIM then (limbs (x ^ m), 0) else ([], 3)) := by
  unfold m_nat_Power
  rw [valid_limbs hx hn, Option.bind_some]
  have l1 := lim_len.2 hx
  have one : ([1] : List Int) = limbs (x ^ 0) := by rw [Nat.pow_zero, limbs_pos (by decide)]; simp [limbs_zero]
  have lim1 : 1 < LIM := by rw [← lim_len]; exact Nat.le_trans (len_one (by decide)) (by decide)
  have e1 : ¬ (m : Int) < 0 := by omega
  have e2 : ¬ (1000 : Int) < m := by omega
  simp only [Bool.not_true, Bool.false_eq_true, if_false, e1, e2, decide_false, Bool.or_self]
  obtain ⟨t, q1, q2⟩ := iter_inv (σ := List Int × Int) (f := fun s => m_nat_Power_L1 n (limbs x) (m : Int) s.1 s.2)
    (I := fun k s => ∃ j : Nat, s = (limbs (x ^ j), (j : Int)) ∧ j + k = m ∧ x ^ j < LIM)
    (Q := fun t => Sum.elim id (fun l => (l, 0)) t = if x ^ m < LIM then (limbs (x ^ m), 0) else (([] : List Int), (3 : Int))) (by
      rintro k s ⟨j, rfl, h1, h2⟩
      simp only [m_nat_Power_L1]
      by_cases hk : k = 0
      · right
        have e : j = m := by omega
        subst e
        exact ⟨_, by simp; rfl, by simp [h2]⟩
      · have e3 : (j : Int) < m := by omega
        have l2 := lim_len.2 h2
        have ps : x ^ j * x = x ^ (j + 1) := (Nat.pow_succ ..).symm
        simp only [e3, decide_true, if_true, nat_times (n := n) (digs_limbs (x ^ j)) (digs_limbs x) (by omega) (by omega) hn, va_limbs, Option.bind_some, ps]
        by_cases hL : x ^ (j + 1) < LIM
        · left
          have := lim_len.2 hL
          rw [decide_eq_false (by omega)]
          exact ⟨_, k - 1, rfl, by omega, j + 1, by rw [wadd1 (show j < 1000 by omega) (by decide)], by omega, hL⟩
        · right
          have := lim_len'.2 hL
          rw [decide_eq_true (by omega)]
          refine ⟨_, rfl, ?_⟩
          have h0 : x ≠ 0 := by
            intro h0; subst h0
            rw [Nat.zero_pow (by omega)] at hL; omega
          have := pow_le_pow (show j + 1 ≤ m by omega) h0
          rw [if_neg (by omega)]; rfl) m n ([1], 0) ⟨0, by rw [one]; rfl, by omega, by rw [Nat.pow_zero]; exact lim1⟩ (by omega)
  rw [q1, ← q2]
  cases t <;> rfl
theorem nat_Shift {n x m : Nat} (hx : x < LIM) (hm : m ≤ 2047) (hn : 10000 < n) : m_nat_Shift n (limbs x) (m : Int) = some (if x * 2 ^ m < LIM then (limbs (x * 2 ^ m), 0) else ([], 3)) := by
  unfold m_nat_Shift
  rw [valid_limbs hx hn, Option.bind_some]
  have l1 := lim_len.2 hx
  have e1 : ¬ (m : Int) < 0 := by omega
  have e2 : ¬ (2047 : Int) < m := by omega
  simp only [Bool.not_true, Bool.false_eq_true, if_false, e1, e2, decide_false, Bool.or_self]
  by_cases h0 : x = 0
  · subst h0
    have : 0 < LIM := by omega
    simp [limbs_zero, this]
  · have l0 : ¬ ((limbs x).length : Int) = 0 := fun hc => h0 (limbs_len0.1 (by omega))
    have e3 : ((m : Int) / 16) = ((m / 16 : Nat) : Int) := by omega
    have e4 : ((m : Int) % 16) = ((m % 16 : Nat) : Int) := by omega
    have e5 : shlM .i64 1 ((m % 16 : Nat) : Int) = some ((2 ^ (m % 16) : Nat) : Int) := by
      have : ∀ k : Nat, k < 16 → shlM .i64 1 (k : Int) = some ((2 ^ k : Nat) : Int) := by decide +kernel
      exact this _ (Nat.mod_lt _ (by decide))
    have e6 : 2 ^ (m % 16) < 65536 := by
      have : ∀ k : Nat, k < 16 → 2 ^ k < 65536 := by decide
      exact this _ (Nat.mod_lt _ (by decide))
    have e8 : (0 : Int) ≤ ((2 ^ (m % 16) : Nat) : Int) := Int.natCast_nonneg _
    have t1 := nat_times (n := n) (a := limbs x) (b := [((2 ^ (m % 16) : Nat) : Int)]) (digs_limbs x) (digs_one (by omega)) (by omega) (by simp) hn
    rw [va_limbs, va_one, Int.toNat_natCast] at t1
    have l3 := len_mul (y := 2 ^ (m % 16)) l1 (len_one e6)
    have hv : va (List.replicate (m / 16) 0 ++ limbs (x * 2 ^ (m % 16))) = x * 2 ^ m := by
      rw [va, val_append, val_zeros, val_limbs, List.length_replicate, Int.zero_add]
      have e7 : (65536 : Int) ^ (m / 16) = ((65536 ^ (m / 16) : Nat) : Int) := by simp
      rw [e7, ← Int.natCast_mul, Int.toNat_natCast, show (65536 : Nat) = 2 ^ 16 by decide, ← Nat.pow_mul, Nat.mul_left_comm, ← Nat.pow_add, Nat.div_add_mod]
    have hd : digs (List.replicate (m / 16) 0 ++ limbs (x * 2 ^ (m % 16))) := digs_append.2 ⟨digs_zeros _, digs_limbs _⟩
    simp (disch := omega) only [l0, decide_false, Bool.false_eq_true, if_false, quoN, remN, e3, e4, mkL_some, Option.bind_some, e5, t1, Int.toNat_natCast]
    rw [app_some (by decide) (by simp; omega), Option.bind_some, nat_limited hd (by simp; omega) hn, Option.bind_some, trim, hv]
    have : (val (List.replicate (m / 16) 0 ++ limbs (x * 2 ^ (m % 16)))).toNat = x * 2 ^ m := hv
    rw [this]
end
section
open Go
theorem ref_Valid {n : Nat} {a : List Int} (hl : a.length ≤ ML) (hn : a.length < n) : m_ref03_Valid n a = some (vld a) := by
  unfold m_ref03_Valid
  rcases iter_scan (f := fun s => m_ref03_Valid_L1 n a s) a.length (fun i => !(decide (0 ≤ a.getD i 0) && decide (a.getD i 0 < 65536))) (fun _ => .inl false) (.inr ()) a.length 0 n 0 (by omega) (fun j hj => by
    simp only [m_ref03_Valid_L1, show (j : Int) < a.length by omega, decide_true, if_true]
    rw [ix_get 0 hj]
    generalize a.getD j 0 = d
    simp only [Option.bind_some]
    by_cases h1 : d < 0
    · simp [h1, show ¬ 0 ≤ d by omega]
    · by_cases h2 : (65536 : Int) ≤ d
      · simp [h1, h2, show ¬ d < 65536 by omega]
      · simp only [h1, h2, decide_false, Bool.not_false, if_true, Option.bind_some, Bool.or_self, Bool.false_eq_true, if_false, show 0 ≤ d by omega, show d < 65536 by omega, decide_true, Bool.and_self, Bool.not_true]
        rw [wadd1 hj hl]) (by simp [m_ref03_Valid_L1]) hn rfl with ⟨i, _, h2, h3, _, h5⟩ | ⟨h1, h2⟩
  · rw [h5]
    simp only [Option.bind_some]
    have : (a.all fun d => decide (0 ≤ d) && decide (d < 65536)) = false := by
      rw [List.all_eq_false]
      exact ⟨a.getD i 0, by simp [h2], by rw [Bool.not_eq_true'] at h3; rw [h3]; decide⟩
    simp [vld, this]
  · rw [h2]
    simp only [Option.bind_some]
    have : (a.all fun d => decide (0 ≤ d) && decide (d < 65536)) = true := by
      rw [List.all_eq_true]
      intro d hd
      obtain ⟨i, h, rfl⟩ := List.getElem_of_mem hd
      have := h1 i (by omega) h
      simpa [List.getD_eq_getElem?_getD, h] using this
    simp only [vld, this, Bool.and_true]
    by_cases h5 : a.length = 0
    · simp [h5]
    · have h6 : ¬ (a.length : Int) = 0 := by omega
      simp only [h6, h5, decide_false, Bool.not_false, Bool.and_true, Bool.false_or]
      by_cases h7 : a.length ≤ 128
      · simp (disch := omega) only [h7, show (a.length : Int) ≤ 128 by omega, decide_true, if_true, w64, ixI, Option.bind_some, Bool.true_and]
        rw [show ((a.length : Int) - 1).toNat = a.length - 1 by omega]
      · simp [h7, show ¬ (a.length : Int) ≤ 128 by omega]
theorem ref_valid_limbs {n x : Nat} (h : x < LIM) (hn : 10000 < n) : m_ref03_Valid n (limbs x) = some true := by
  have := lim_len.2 h
  rw [ref_Valid (by simp only [ML]; omega) (by omega), vld_limbs h]
theorem ref_compare {n x y : Nat} (hx : (limbs x).length ≤ 1000) (hy : (limbs y).length ≤ 1000) (hn : 10000 < n) : m_ref03_compare n (limbs x) (limbs y) = some (sgn x y) := by
  unfold m_ref03_compare
  by_cases hl : (limbs x).length = (limbs y).length
  · have e : ((limbs x).length : Int) = (limbs y).length := by omega
    simp only [e, decide_true, Bool.not_true, Bool.false_eq_true, if_false]
    rw [← e, w64 (by omega) (by omega)]
    generalize ha : limbs x = a at *
    generalize hb : limbs y = b at *
    have da : digs a := ha ▸ digs_limbs x
    have db : digs b := hb ▸ digs_limbs y
    have vx : val a = x := by rw [← ha, val_limbs]
    have vy : val b = y := by rw [← hb, val_limbs]
    obtain ⟨t, h1, h2⟩ := iter_inv (σ := Int) (f := fun s => m_ref03_compare_L1 n a b s) (I := fun k s => s = (k : Int) - 1 ∧ k ≤ a.length ∧ ∀ i, k ≤ i → i < a.length → a.getD i 0 = b.getD i 0)
      (Q := fun t => Sum.elim id (fun _ => 0) t = sgn x y) (by
        rintro k s ⟨rfl, h2, h3⟩
        simp only [m_ref03_compare_L1]
        by_cases hk : k = 0
        · subst hk
          right
          refine ⟨.inr (), by simp, ?_⟩
          have := drop_ext hl h3
          simp only [List.drop_zero] at this
          subst this
          have : x = y := by omega
          subst this
          simp [sgn]
        · have e1 : (0 : Int) ≤ (k : Int) - 1 := by omega
          have e2 : ((k : Int) - 1).toNat = k - 1 := by omega
          have hdr : ∀ i, k - 1 + 1 ≤ i → i < a.length → a.getD i 0 = b.getD i 0 := fun i q1 q2 => h3 i (by omega) q2
          simp (disch := omega) only [e1, decide_true, if_true, ixI, Option.bind_some, e2, w64]
          by_cases hlt : a.getD (k - 1) 0 < b.getD (k - 1) 0
          · right
            refine ⟨.inl (-1), by simp only [hlt, decide_true, if_true], ?_⟩
            have := val_lt_of da db (k := k - 1) (by omega) hl (drop_ext hl hdr) hlt
            simp only [sgn, show x < y by omega, Sum.elim_inl, id, if_true]
          · by_cases hgt : b.getD (k - 1) 0 < a.getD (k - 1) 0
            · right
              refine ⟨.inl 1, by simp only [hlt, hgt, decide_true, decide_false, Bool.false_eq_true, if_false, if_true], ?_⟩
              have := val_lt_of db da (k := k - 1) (by omega) hl.symm (drop_ext hl hdr).symm hgt
              simp only [sgn, show ¬ x < y by omega, show ¬ x = y by omega, Sum.elim_inl, id, if_false]
            · left
              refine ⟨(k : Int) - 1 - 1, k - 1, by simp only [hlt, hgt, decide_false, Bool.false_eq_true, if_false], by omega, by omega, by omega, fun i q1 q2 => ?_⟩
              by_cases hi : i = k - 1
              · subst hi; omega
              · exact h3 i (by omega) q2) a.length n ((a.length : Int) - 1) ⟨rfl, by omega, fun i q1 q2 => by omega⟩ (by omega)
    rw [h1]
    cases t with
    | inl u => exact congrArg some h2
    | inr u => exact congrArg some h2
  · have e : ¬ ((limbs x).length : Int) = (limbs y).length := by omega
    simp only [e, decide_false, Bool.not_false, if_true]
    by_cases h1 : (limbs x).length < (limbs y).length
    · have := sgn_len h1
      simp [sgn, this, h1]
    · have := sgn_len (x := y) (y := x) (by omega)
      simp [sgn, show ¬ x < y by omega, show ¬ x = y by omega, h1]
theorem ref_Compare {n x y : Nat} (hx : x < LIM) (hy : y < LIM) (hn : 10000 < n) : m_ref03_Compare n (limbs x) (limbs y) = some (sgn x y) := by
  have h1 := lim_len.2 hx
  have h2 := lim_len.2 hy
  simp [m_ref03_Compare, ref_valid_limbs hx hn, ref_valid_limbs hy hn, ref_compare (n := n) (x := x) (y := y) (by omega) (by omega) hn]
theorem ref_trim {n : Nat} {a : List Int} (h : digs a) (hl : a.length ≤ 1000) (hn : 10000 < n) : m_ref03_trim n a = some (trim a) := by
  unfold m_ref03_trim
  obtain ⟨t, h1, k, h2, h3, h4⟩ := iter_inv (σ := Int) (f := fun s => m_ref03_trim_L1 n a s) (I := fun k s => s = k ∧ k ≤ a.length ∧ trim (a.take k) = trim a) (Q := fun t => ∃ k : Nat, t = k ∧ k ≤ a.length ∧ a.take k = trim a) (by
    rintro k s ⟨rfl, h2, h3⟩
    simp only [m_ref03_trim_L1]
    have hlt : (a.take k).length = k := by simp; omega
    by_cases h0 : k = 0
    · subst h0
      right
      exact ⟨0, by simp, 0, rfl, by omega, by rw [← h3, trim_end (digs_take h _) (.inl hlt)]⟩
    · have e1 : (0 : Int) < k := by omega
      have e2 : ((k : Int) - 1).toNat = k - 1 := by omega
      have hg : (a.take k).getD ((a.take k).length - 1) 0 = a.getD (k - 1) 0 := by rw [hlt, getD_take (by omega)]
      simp (disch := omega) only [e1, decide_true, if_true, w64, ixI, Option.bind_some, Bool.true_and, e2]
      by_cases hz : a.getD (k - 1) 0 = 0
      · left
        simp only [hz, decide_true, if_true]
        refine ⟨_, k - 1, rfl, by omega, by omega, by omega, ?_⟩
        have := trim_zero (a := a.take k) (by omega) (by rw [hg, hz])
        rw [hlt, List.take_take, Nat.min_eq_left (by omega)] at this
        rw [this, h3]
      · right
        simp only [hz, decide_false, Bool.false_eq_true, if_false]
        exact ⟨_, rfl, k, rfl, h2, by rw [← h3, trim_end (digs_take h _) (.inr (by rw [hg]; exact hz))]⟩) a.length n (a.length : Int) ⟨rfl, by omega, by rw [take_all (by omega)]⟩ (by omega)
  subst h2
  simp (disch := omega) only [h1, Option.bind_some, slc_some, Int.toNat_natCast, Int.toNat_zero, List.drop_zero]
  rw [app_some (by decide) (by simp; omega), h4]; rfl
theorem ref_times {n : Nat} {a b : List Int} (ha : digs a) (hb : digs b) (hl : a.length ≤ 400) (hl2 : b.length ≤ 400) (hn : 10000 < n) : m_ref03_times n a b = some (limbs (va a * va b)) := by
  unfold m_ref03_times
  have e0 : ((a.length : Int) + b.length).toNat = a.length + b.length := by omega
  simp (disch := omega) only [mkL_some, Option.bind_some, w64, e0]
  obtain ⟨t, h1, h2, h3, h4⟩ := iter_inv (σ := Int × List Int) (f := fun s => m_ref03_times_L1 n a b s.1 s.2)
    (I := fun k s => ∃ i : Nat, s.1 = i ∧ i + k = a.length ∧ s.2.length = a.length + b.length ∧ digs s.2 ∧ val (s.2.take (i + b.length)) = val (a.take i) * val b)
    (Q := fun t => t.length = a.length + b.length ∧ digs t ∧ val t = val a * val b) (by
      rintro k ⟨j, o⟩ ⟨i, h1, h2, h4, h5, h6⟩
      dsimp only at h1 h4 h5 h6
      subst h1
      simp only [m_ref03_times_L1]
      by_cases hk : k = 0
      · right
        have e0 : i = a.length := by omega
        refine ⟨o, by simp [e0], h4, h5, ?_⟩
        rw [e0, take_all (by omega), take_all (by omega)] at h6
        exact h6
      · left
        have e1 : (i : Int) < a.length := by omega
        obtain ⟨t, q1, q2, q3, q4, q5⟩ := nat_times_row (n := n) (i := i) (x := a.getD i 0) (digs_getD ha i) hb h5 hl2 (by omega) h4 (by omega) hn
        have q1' : iter n (fun s => m_ref03_times_L2 n a b (i : Int) s.1 s.2.1 s.2.2) (0, 0, o) = some t := by
          rw [← q1]
          congr 1; funext s
          unfold m_ref03_times_L2 m_nat_times_L2
          rw [show ix a (i : Int) = some (a.getD i 0) from ix_get 0 (by omega)]; rfl
        have e4 : ((i : Int) + b.length) = ((i + b.length : Nat) : Int) := by omega
        simp (disch := omega) only [e1, decide_true, if_true, ixI, Option.bind_some, Int.toNat_natCast, q1', e4, w64, setI_some]
        refine ⟨_, k - 1, rfl, by omega, i + 1, rfl, by omega, by simp [q3], digs_set q4 q2.1 q2.2, ?_⟩
        have s1 := val_take_succ a i
        rw [show i + 1 + b.length = i + b.length + 1 by omega, val_take_set_succ _ (by omega), s1]
        clear ha hb h4 h2 hk e1 e4 q1 q1' q2 q3 q4 h5 s1
        grind) a.length n (0, List.replicate (a.length + b.length) 0) ⟨0, rfl, by omega, by simp, digs_zeros _, by simp [val, val_zeros]⟩ (by omega)
  simp only [h1, Option.bind_some, ref_trim h3 (by omega) hn, trim, h4]
  congr 2
  rw [← va_nn ha, ← va_nn hb]; rfl
theorem ref_limited {n : Nat} {a : List Int} (h : digs a) (hl : a.length ≤ 1000) (hn : 10000 < n) : m_ref03_limited n a = some (if va a < LIM then (trim a, 0) else ([], 3)) := by
  unfold m_ref03_limited
  simp only [ref_trim h hl hn, Option.bind_some]
  by_cases hx : va a < LIM
  · have := lim_len.2 hx
    simp [trim, hx, show ¬ (128 : Int) < ((limbs (va a)).length : Int) by omega]
  · have := lim_len'.2 hx
    simp [trim, hx, show (128 : Int) < ((limbs (va a)).length : Int) by omega]
theorem ref_Mul {n x y : Nat} (hx : x < LIM) (hy : y < LIM) (hn : 10000 < n) : m_ref03_Mul n (limbs x) (limbs y) = some (if x * y < LIM then (limbs (x * y), 0) else ([], 3)) := by
  have h1 := lim_len.2 hx
  have h2 := lim_len.2 hy
  have h3 := len_mul h1 h2
  simp [m_ref03_Mul, ref_valid_limbs hx hn, ref_valid_limbs hy hn, ref_times (n := n) (digs_limbs x) (digs_limbs y) (by omega) (by omega) hn, va_limbs, ref_limited (n := n) (digs_limbs (x * y)) (by omega) hn, trim_limbs]
theorem val_snoc (a : List Int) (d : Int) : val (a ++ [d]) = val a + 65536 ^ a.length * d := by
  rw [val_append]; simp [val]
theorem ref_sum {n : Nat} {a b : List Int} (ha : digs a) (hb : digs b) (hl : a.length ≤ 400) (hl2 : b.length ≤ 400) (hn : 10000 < n) : m_ref03_sum n a b = some (limbs (va a + va b)) := by
  unfold m_ref03_sum
  obtain ⟨⟨t1, t2⟩, h1, h2, h3, h4, h5⟩ := iter_inv (σ := List Int × Int × Int) (τ := List Int × Int) (f := fun s => m_ref03_sum_L1 n a b s.1 s.2.1 s.2.2)
    (I := fun k s => ∃ i : Nat, s.2.2 = i ∧ i + k = max a.length b.length ∧ (s.2.1 = 0 ∨ s.2.1 = 1) ∧ s.1.length = i ∧ digs s.1 ∧ val s.1 + s.2.1 * 65536 ^ i = val (a.take i) + val (b.take i))
    (Q := fun t => t.1.length ≤ 400 ∧ digs t.1 ∧ (t.2 = 0 ∨ t.2 = 1) ∧ val t.1 + t.2 * 65536 ^ t.1.length = val a + val b) (by
      rintro k ⟨o, c, j⟩ ⟨i, h1, h2, h3, h4, h5, h6⟩
      dsimp only at h1 h2 h3 h4 h5 h6
      subst h1
      simp only [m_ref03_sum_L1]
      by_cases hk : k = 0
      · right
        refine ⟨(o, c), by simp [show ¬ i < a.length by omega, show ¬ i < b.length by omega], by dsimp only; omega, h5, h3, ?_⟩
        rw [take_all (by omega), take_all (by omega)] at h6
        rw [h4]; exact h6
      · left
        have b1 := digs_getD ha i
        have b2 := digs_getD hb i
        have e1 : (decide ((i : Int) < a.length) || decide ((i : Int) < b.length)) = true := by simp; omega
        have s1 := val_take_succ a i
        have s2 := val_take_succ b i
        have t1 : (if decide ((i : Int) < a.length) = true then (ix a (i : Int)).bind fun v6 => some (IntKind.i64.wrap (c + v6)) else some c) = some (c + a.getD i 0) := by
          by_cases h : i < a.length
          · simp (disch := omega) only [show (i : Int) < a.length by omega, decide_true, if_true, ixI, Option.bind_some, w64, Int.toNat_natCast]
          · rw [List.getD_eq_getElem?_getD, List.getElem?_eq_none (by omega)]
            simp [h]
        have t2 : (if decide ((i : Int) < b.length) = true then (ix b (i : Int)).bind fun v8 => some (IntKind.i64.wrap ((c + a.getD i 0) + v8)) else some (c + a.getD i 0)) = some (c + a.getD i 0 + b.getD i 0) := by
          by_cases h : i < b.length
          · simp (disch := omega) only [show (i : Int) < b.length by omega, decide_true, if_true, ixI, Option.bind_some, w64, Int.toNat_natCast]
          · rw [List.getD_eq_getElem?_getD (l := b), List.getElem?_eq_none (l := b) (by omega)]
            simp [h]
        simp only [e1, if_true, t1, Option.bind_some, t2]
        generalize hT : c + a.getD i 0 + b.getD i 0 = T at *
        have hTb : 0 ≤ T ∧ T ≤ 131071 := by omega
        simp (disch := omega) only [remN, quoN, Option.bind_some, w64]
        rw [app_some (by decide) (by simp; omega), Option.bind_some]
        refine ⟨_, k - 1, rfl, by omega, i + 1, rfl, by omega, by dsimp only; omega, by simp [h4], digs_append.2 ⟨h5, digs_one (by omega)⟩, ?_⟩
        dsimp only
        have s3 : T = 65536 * (T / 65536) + T % 65536 := by omega
        rw [val_snoc, h4, Int.pow_succ, s1, s2]
        generalize T / 65536 = Q at *
        generalize T % 65536 = R at *
        clear e1 t1 t2 hTb b1 b2 s1 s2 ha hb h5 h3
        grind) (max a.length b.length) n ([], 0, 0) ⟨0, rfl, by omega, .inl rfl, rfl, digs_nil, by simp [val]⟩ (by omega)
  dsimp only at h2 h3 h4 h5
  simp only [h1, Option.bind_some]
  rw [app_some (by decide) (by simp; omega), Option.bind_some, ref_trim (digs_append.2 ⟨h3, digs_one (by omega)⟩) (by simp; omega) hn, trim, val_snoc]
  have := va_nn ha
  have := va_nn hb
  rw [Option.bind_some]
  congr 2
  rw [Int.mul_comm, h5]; omega
end
section
open Go
theorem ref_half {n x : Nat} (hl : (limbs x).length ≤ 400) (hn : 10000 < n) : m_ref03_half n (limbs x) = some (limbs (x / 2)) := by
  unfold m_ref03_half
  generalize hA : limbs x = a at *
  have ha : digs a := hA ▸ digs_limbs x
  have vA : val a = x := by rw [← hA, val_limbs]
  simp (disch := omega) only [mkL_some, Option.bind_some, Int.toNat_natCast]
  obtain ⟨t, h1, h2, h3, h4⟩ := iter_inv (σ := Int × List Int) (f := fun s => m_ref03_half_L1 n a s.1 s.2)
    (I := fun k s => ∃ i : Nat, s.1 = i ∧ i + k = a.length ∧ s.2.length = a.length ∧ digs s.2 ∧ 2 * val (s.2.take i) + a.getD 0 0 % 2 = val (a.take i) + (a.getD i 0 % 2) * 65536 ^ i)
    (Q := fun t => t.length = a.length ∧ digs t ∧ 2 * val t + a.getD 0 0 % 2 = val a) (by
      rintro k ⟨j, o⟩ ⟨i, h1, h2, h4, h5, h6⟩
      dsimp only at h1 h4 h5 h6
      subst h1
      simp only [m_ref03_half_L1]
      by_cases hk : k = 0
      · right
        refine ⟨o, by simp [show ¬ i < a.length by omega], h4, h5, ?_⟩
        rw [take_all (by omega), take_all (by omega)] at h6
        have : a.getD i 0 = 0 := by rw [List.getD_eq_getElem?_getD, List.getElem?_eq_none (by omega)]; rfl
        rw [this] at h6
        simpa using h6
      · left
        have b1 := digs_getD ha i
        have b2 := digs_getD ha (i + 1)
        have e1 : (i : Int) < a.length := by omega
        have e2 : (i : Int) + 1 = ((i + 1 : Nat) : Int) := by omega
        have s1 := val_take_succ a i
        have s2 : a.getD i 0 = 2 * (a.getD i 0 / 2) + a.getD i 0 % 2 := by omega
        have hol : i < o.length := by omega
        have hset : (o.set i (a.getD i 0 / 2)).getD i 0 = a.getD i 0 / 2 := by rw [getD_set _ _ _ _ _ hol, if_pos rfl]
        have hsl : (o.set i (a.getD i 0 / 2)).length = o.length := by simp
        simp (disch := omega) only [e1, decide_true, if_true, ixI, Option.bind_some, quoN, setI_some, w64, e2, Int.toNat_natCast, hset]
        by_cases hh : i + 1 < a.length
        · have e3 : ((i + 1 : Nat) : Int) < a.length := by omega
          simp (disch := omega) only [e3, decide_true, if_true, ixI, Option.bind_some, Int.toNat_natCast, remN, Bool.true_and]
          by_cases hodd : a.getD (i + 1) 0 % 2 = 1
          · simp (disch := omega) only [hodd, decide_true, if_true, Option.bind_some, setI_some, w64, Int.toNat_natCast, List.set_set]
            refine ⟨_, k - 1, rfl, by omega, i + 1, rfl, by omega, by simp [h4], digs_set h5 (by omega) (by omega), ?_⟩
            dsimp only
            rw [val_take_set_succ _ hol, Int.pow_succ, s1, hodd]
            generalize a.getD i 0 / 2 = Q at *
            generalize a.getD i 0 % 2 = R at *
            grind
          · simp only [hodd, decide_false, Bool.false_eq_true, if_false, Option.bind_some]
            refine ⟨_, k - 1, rfl, by omega, i + 1, rfl, by omega, by simp [h4], digs_set h5 (by omega) (by omega), ?_⟩
            dsimp only
            have hev : a.getD (i + 1) 0 % 2 = 0 := by omega
            rw [val_take_set_succ _ hol, Int.pow_succ, s1, hev]
            generalize a.getD i 0 / 2 = Q at *
            generalize a.getD i 0 % 2 = R at *
            grind
        · have e3 : ¬ ((i + 1 : Nat) : Int) < a.length := by omega
          simp only [e3, decide_false, Bool.false_eq_true, if_false, Option.bind_some, Bool.false_and]
          refine ⟨_, k - 1, rfl, by omega, i + 1, rfl, by omega, by simp [h4], digs_set h5 (by omega) (by omega), ?_⟩
          dsimp only
          have hev : a.getD (i + 1) 0 % 2 = 0 := by rw [List.getD_eq_getElem?_getD, List.getElem?_eq_none (by omega)]; rfl
          rw [val_take_set_succ _ hol, Int.pow_succ, s1, hev]
          generalize a.getD i 0 / 2 = Q at *
          generalize a.getD i 0 % 2 = R at *
          grind) a.length n (0, List.replicate a.length 0) ⟨0, rfl, by omega, by simp, digs_zeros _, by simp [val]⟩ (by omega)
  simp only [h1, Option.bind_some, ref_trim h3 (by omega) hn, trim]
  congr 2
  have := digs_getD ha 0
  omega
theorem ref_less {n : Nat} {a b : List Int} (ha : digs a) (hb : digs b) (hl : a.length ≤ 400) (hv : val b ≤ val a) (hn : 10000 < n) : m_ref03_less n a b = some (limbs (va a - va b)) := by
  unfold m_ref03_less
  obtain ⟨t, h1, h2, h3, h4⟩ := iter_inv (σ := List Int × Int × Int) (f := fun s => m_ref03_less_L1 n a b s.1 s.2.1 s.2.2)
    (I := fun k s => ∃ i : Nat, s.2.2 = i ∧ i + k = a.length ∧ (s.2.1 = 0 ∨ s.2.1 = 1) ∧ s.1.length = i ∧ digs s.1 ∧ val s.1 = val (a.take i) - val (b.take i) + s.2.1 * 65536 ^ i)
    (Q := fun t => t.length = a.length ∧ digs t ∧ val t = val a - val b) (by
      rintro k ⟨o, c, j⟩ ⟨i, h1, h2, h3, h4, h5, h6⟩
      dsimp only at h1 h3 h4 h5 h6
      subst h1
      simp only [m_ref03_less_L1]
      by_cases hk : k = 0
      · right
        have e0 : i = a.length := by omega
        refine ⟨o, by simp [e0], by omega, h5, ?_⟩
        have hb1 := val_bounds ha
        rw [e0, take_all (Nat.le_refl _), val_take_big hb (by omega)] at h6
        have hb2 := val_bounds h5
        rw [h4, e0] at hb2
        rcases h3 with h3 | h3
        · rw [h3] at h6; omega
        · rw [h3] at h6; omega
      · left
        have b1 := digs_getD ha i
        have b2 := digs_getD hb i
        have e1 : (i : Int) < a.length := by omega
        have s1 := val_take_succ a i
        have s2 := val_take_succ b i
        have t1 : (if decide ((i : Int) < b.length) = true then (ix b (i : Int)).bind fun v7 => some (IntKind.i64.wrap (IntKind.i64.wrap (a.getD i 0 - c) - v7)) else some (IntKind.i64.wrap (a.getD i 0 - c))) = some (a.getD i 0 - c - b.getD i 0) := by
          by_cases h : i < b.length
          · simp (disch := omega) only [show (i : Int) < b.length by omega, decide_true, if_true, ixI, Option.bind_some, w64, Int.toNat_natCast]
          · rw [List.getD_eq_getElem?_getD (l := b), List.getElem?_eq_none (l := b) (by omega)]
            simp (disch := omega) only [show ¬ (i : Int) < b.length by omega, decide_false, Bool.false_eq_true, if_false, w64]
            simp
        simp (disch := omega) only [e1, decide_true, if_true, ixI, Option.bind_some, Int.toNat_natCast, t1]
        by_cases hd : a.getD i 0 - c - b.getD i 0 < 0
        · simp (disch := omega) only [hd, decide_true, if_true, Option.bind_some, w64]
          rw [app_some (by decide) (by simp; omega), Option.bind_some]
          refine ⟨_, k - 1, rfl, by omega, i + 1, rfl, by omega, .inr rfl, by simp [h4], digs_append.2 ⟨h5, digs_one (by omega)⟩, ?_⟩
          dsimp only
          rw [val_snoc, h4, Int.pow_succ]
          grind
        · simp (disch := omega) only [hd, decide_false, Bool.false_eq_true, if_false, Option.bind_some, w64]
          rw [app_some (by decide) (by simp; omega), Option.bind_some]
          refine ⟨_, k - 1, rfl, by omega, i + 1, rfl, by omega, .inl rfl, by simp [h4], digs_append.2 ⟨h5, digs_one (by omega)⟩, ?_⟩
          dsimp only
          rw [val_snoc, h4, Int.pow_succ]
          grind) a.length n ([], 0, 0) ⟨0, rfl, by omega, .inl rfl, rfl, digs_nil, by simp [val]⟩ (by omega)
  simp only [h1, Option.bind_some, ref_trim h3 (by omega) hn, trim, h4]
  congr 2
  have := val_bounds ha
  have := val_bounds hb
  simp only [va]; omega
theorem p2le {a b : Nat} (h : a ≤ b) : 2 ^ a ≤ 2 ^ b := Nat.pow_le_pow_right (by decide) h
theorem lim_pow : LIM = 2 ^ 2048 := by
  decide +kernel
theorem one_limbs : ([1] : List Int) = limbs 1 := by rw [limbs_pos (by decide)]; simp [limbs_zero]
theorem ref_divide {n a b : Nat} (ha : a < LIM) (hbl : b < LIM) (hb : 0 < b) (hn : 10000 < n) : m_ref03_divide n (limbs a) (limbs b) = some (limbs (a / b), limbs (a % b)) := by
  unfold m_ref03_divide
  have la := lim_len.2 ha
  have lb := lim_len.2 hbl
  obtain ⟨t, h1, N, h2, h3, h4, h5⟩ := iter_inv (σ := List Int × Int) (f := fun s => m_ref03_divide_L1 n (limbs a) s.1 s.2)
    (I := fun k s => ∃ j : Nat, s = (limbs (b * 2 ^ j), (j : Int)) ∧ j + k = 2048 ∧ a < b * 2 ^ j * 2 ^ k ∧ (limbs (b * 2 ^ j)).length ≤ 129)
    (Q := fun t => ∃ N : Nat, t = (limbs (b * 2 ^ N), (N : Int)) ∧ N ≤ 2048 ∧ a < b * 2 ^ N ∧ (limbs (b * 2 ^ N)).length ≤ 129) (by
      rintro k s ⟨j, rfl, h1, h2, h3⟩
      simp only [m_ref03_divide_L1]
      rw [ref_compare (by omega) (by omega) hn, Option.bind_some]
      by_cases hc : b * 2 ^ j ≤ a
      · left
        simp only [sgn_le.2 hc, decide_true, if_true]
        rw [ref_sum (digs_limbs _) (digs_limbs _) (by omega) (by omega) hn, Option.bind_some, va_limbs]
        have e : b * 2 ^ j + b * 2 ^ j = b * 2 ^ (j + 1) := by rw [Nat.pow_succ]; grind
        have l1 := Nat.le_trans (limbs_len_le hc) la
        have l2 := len_add l1 l1
        cases k with
        | zero => simp at h2; omega
        | succ k =>
          refine ⟨_, k, rfl, by omega, j + 1, by rw [e, wadd1 (show j < 10000 by omega) (by decide)], by omega, ?_, by rw [← e]; exact l2⟩
          rw [show b * 2 ^ (j + 1) * 2 ^ k = b * 2 ^ j * 2 ^ (k + 1) by rw [Nat.pow_succ, Nat.pow_succ]; grind]
          exact h2
      · right
        have : ¬ sgn (b * 2 ^ j) a ≤ 0 := fun h => hc (sgn_le.1 h)
        simp only [this, decide_false, Bool.false_eq_true, if_false]
        exact ⟨_, rfl, j, rfl, by omega, by omega, h3⟩) 2048 n (limbs b, 0) ⟨0, by simp, by omega, by
          rw [← lim_pow, Nat.pow_zero, Nat.mul_one]
          exact Nat.lt_of_lt_of_le ha (Nat.le_mul_of_pos_left _ hb), by simp; omega⟩ (by omega)
  rw [h1, Option.bind_some]
  subst h2
  obtain ⟨t, g1, q, r, g2, g3, g4⟩ := iter_inv (σ := List Int × List Int × List Int × Int) (f := fun s => m_ref03_divide_L2 n (limbs (b * 2 ^ N), (N : Int)) s.1 s.2.1 s.2.2.1 s.2.2.2)
    (I := fun k s => ∃ (j r q : Nat), s = (limbs r, limbs (b * 2 ^ k), limbs q, (j : Int)) ∧ j + k = N ∧ r < b * 2 ^ k ∧ a = q * (b * 2 ^ k) + r ∧ (limbs (b * 2 ^ k)).length ≤ 129)
    (Q := fun t => ∃ q r : Nat, t = (limbs r, limbs q) ∧ r < b ∧ a = q * b + r) (by
      rintro k s ⟨j, r, q, rfl, p1, p2, p3, p4⟩
      simp only [m_ref03_divide_L2]
      cases k with
      | zero =>
        right
        rw [Nat.pow_zero, Nat.mul_one] at p2 p3
        exact ⟨(limbs r, limbs q), by simp [show j = N by omega], q, r, rfl, p2, p3⟩
      | succ k =>
        left
        have e1 : (j : Int) < (N : Int) := by omega
        have e2 : b * 2 ^ (k + 1) / 2 = b * 2 ^ k := by
          rw [Nat.pow_succ, ← Nat.mul_assoc, Nat.mul_div_cancel _ (by decide)]
        have e5 : b * 2 ^ (k + 1) = 2 * (b * 2 ^ k) := by rw [Nat.pow_succ]; grind
        have hpos : 1 ≤ b * 2 ^ k := Nat.mul_pos hb (Nat.pow_pos (by decide))
        have hq : q ≤ a := by
          have := Nat.mul_le_mul_left q (show 1 ≤ b * 2 ^ (k + 1) by omega)
          omega
        have lq := Nat.le_trans (limbs_len_le hq) la
        have lqq := len_add lq lq
        have hr : r ≤ a := by omega
        have lr := Nat.le_trans (limbs_len_le hr) la
        have lc : (limbs (b * 2 ^ k)).length ≤ 129 := Nat.le_trans (limbs_len_le (by omega)) p4
        simp only [e1, decide_true, if_true]
        rw [ref_half (by omega) hn, Option.bind_some, e2, ref_sum (digs_limbs q) (digs_limbs q) (by omega) (by omega) hn, Option.bind_some, va_limbs, ref_compare (by omega) (by omega) hn, Option.bind_some]
        by_cases hc : b * 2 ^ k ≤ r
        · simp only [sgn_le.2 hc, decide_true, if_true]
          rw [ref_less (digs_limbs r) (digs_limbs (b * 2 ^ k)) (by omega) (by rw [val_limbs, val_limbs]; omega) hn, Option.bind_some, va_limbs, va_limbs, one_limbs, ref_sum (digs_limbs (q + q)) (digs_limbs 1) (by omega) (by rw [← one_limbs]; simp) hn, Option.bind_some, va_limbs, va_limbs]
          refine ⟨_, k, rfl, by omega, j + 1, r - b * 2 ^ k, q + q + 1, by rw [wadd1 (show j < 10000 by omega) (by decide)], by omega, by omega, ?_, lc⟩
          rw [e5] at p3
          have : q * (2 * (b * 2 ^ k)) = (q + q) * (b * 2 ^ k) := by grind
          rw [Nat.add_mul (q + q) 1, Nat.one_mul]
          omega
        · have : ¬ sgn (b * 2 ^ k) r ≤ 0 := fun h => hc (sgn_le.1 h)
          simp only [this, decide_false, Bool.false_eq_true, if_false, Option.bind_some]
          refine ⟨_, k, rfl, by omega, j + 1, r, q + q, by rw [wadd1 (show j < 10000 by omega) (by decide)], by omega, by omega, ?_, lc⟩
          rw [e5] at p3
          have : q * (2 * (b * 2 ^ k)) = (q + q) * (b * 2 ^ k) := by grind
          omega) N n (limbs a, limbs (b * 2 ^ N), [], 0) ⟨0, a, 0, by rw [limbs_zero]; rfl, by omega, h4, by omega, h5⟩ (by omega)
  rw [g1, Option.bind_some]
  subst g2
  have g5 : a / b = q := by
    rw [g4, Nat.mul_comm, Nat.mul_add_div hb, Nat.div_eq_of_lt g3]; rfl
  have g6 : a % b = r := by
    rw [g4, Nat.mul_comm, Nat.mul_add_mod, Nat.mod_eq_of_lt g3]
  rw [g5, g6]
theorem ref_Divide {n x y : Nat} (hx : x < LIM) (hy : y < LIM) (h0 : 0 < y) (hn : 10000 < n) : m_ref03_Divide n (limbs x) (limbs y) = some (limbs (x / y), limbs (x % y), 0) := by
  have h3 : limbs y ≠ [] := limbs_ne (by omega)
  simp [m_ref03_Divide, ref_valid_limbs hx hn, ref_valid_limbs hy hn, h3, ref_divide (n := n) (a := x) (b := y) hx hy h0 hn]
theorem ref_Gcd {n x y : Nat} (hx : x < LIM) (hy : y < LIM) (hn : 10000 < n) : m_ref03_Gcd n (limbs x) (limbs y) = some (limbs (Nat.gcd x y), 0) := by
  have h1 := lim_len.2 hx
  have h2 := lim_len.2 hy
  obtain ⟨t, q1, q2⟩ := iter_inv (σ := List Int × List Int) (f := fun s => m_ref03_Gcd_L1 n s.1 s.2)
    (I := fun k s => ∃ a b : Nat, s = (limbs a, limbs b) ∧ a < LIM ∧ b < LIM ∧ Nat.gcd a b = Nat.gcd x y ∧ ((b ≤ a ∧ a * b < 2 ^ k) ∨ k = 4097))
    (Q := fun t => t = limbs (Nat.gcd x y) ∧ t.length ≤ 128) (by
      rintro k s ⟨a, b, rfl, la, lb, hg, hk⟩
      simp only [m_ref03_Gcd_L1]
      by_cases h0 : b = 0
      · subst h0
        right
        rw [Nat.gcd_zero_right] at hg
        exact ⟨limbs a, by simp [limbs_zero], by rw [hg], lim_len.2 la⟩
      · left
        have e1 : (0 : Int) < (limbs b).length := by
          have := limbs_len0 (x := b); omega
        obtain ⟨k', p1, p2, p3⟩ := gcd_step (by omega) hk la lb
        simp only [e1, decide_true, if_true, ref_divide (n := n) la lb (show 0 < b by omega) hn, Option.bind_some]
        refine ⟨_, k', rfl, p1, b, a % b, rfl, lb, by omega, ?_, .inl ⟨p2, p3⟩⟩
        rw [← hg, Nat.gcd_comm b, ← Nat.gcd_rec, Nat.gcd_comm]) 4097 n (limbs x, limbs y) ⟨x, y, rfl, hx, hy, rfl, .inr rfl⟩ (by omega)
  obtain ⟨q2, q3⟩ := q2
  simp only [m_ref03_Gcd, ref_valid_limbs hx hn, ref_valid_limbs hy hn, Option.bind_some, Bool.not_true, Bool.not_false, if_true, Bool.or_self, Bool.false_eq_true, if_false, q1]
  rw [app_some (by decide) (by simp; omega), q2]; rfl
theorem ref_Power {n x m : Nat} (hx : x < LIM) (hm : m ≤ 1000) (hn : 10000 < n) : m_ref03_Power n (limbs x) (m : Int) = some (if x ^ m < LIM then (limbs (x ^ m), 0) else ([], 3)) := by
  unfold m_ref03_Power
  rw [ref_valid_limbs hx hn, Option.bind_some]
  have one : ([1] : List Int) = limbs (x ^ 0) := by rw [Nat.pow_zero, one_limbs]
  have lim1 : 1 < LIM := by rw [← lim_len]; exact Nat.le_trans (len_one (by decide)) (by decide)
  have e1 : ¬ (m : Int) < 0 := by omega
  have e2 : ¬ (1000 : Int) < m := by omega
  simp only [Bool.not_true, Bool.false_eq_true, if_false, e1, e2, decide_false, Bool.or_self]
  obtain ⟨t, q1, q2⟩ := iter_inv (σ := List Int × Int) (f := fun s => m_ref03_Power_L1 n (limbs x) (m : Int) s.1 s.2)
    (I := fun k s => ∃ j : Nat, s = (limbs (x ^ j), (j : Int)) ∧ j + k = m ∧ x ^ j < LIM)
    (Q := fun t => Sum.elim id (fun l => (l, 0)) t = if x ^ m < LIM then (limbs (x ^ m), 0) else (([] : List Int), (3 : Int))) (by
      rintro k s ⟨j, rfl, h1, h2⟩
      simp only [m_ref03_Power_L1]
      by_cases hk : k = 0
      · right
        have e : j = m := by omega
        subst e
        exact ⟨_, by simp; rfl, by simp [h2]⟩
      · have e3 : (j : Int) < m := by omega
        have ps : x ^ j * x = x ^ (j + 1) := (Nat.pow_succ ..).symm
        simp only [e3, decide_true, if_true, ref_Mul h2 hx hn, Option.bind_some, ps]
        by_cases hL : x ^ (j + 1) < LIM
        · left
          simp only [hL, if_true, decide_true, Bool.not_true, Bool.false_eq_true, if_false]
          exact ⟨_, k - 1, rfl, by omega, j + 1, by rw [wadd1 (show j < 1000 by omega) (by decide)], by omega, hL⟩
        · right
          simp only [hL, if_false]
          refine ⟨_, rfl, ?_⟩
          have h0 : x ≠ 0 := by
            intro h0; subst h0
            rw [Nat.zero_pow (by omega)] at hL; omega
          have := pow_le_pow (show j + 1 ≤ m by omega) h0
          rw [if_neg (by omega)]; rfl) m n ([1], 0) ⟨0, by rw [one]; rfl, by omega, by rw [Nat.pow_zero]; exact lim1⟩ (by omega)
  rw [q1, ← q2]
  cases t <;> rfl
theorem ref_Shift {n x m : Nat} (hx : x < LIM) (hm : m ≤ 2047) (hn : 10000 < n) : m_ref03_Shift n (limbs x) (m : Int) = some (if x * 2 ^ m < LIM then (limbs (x * 2 ^ m), 0) else ([], 3)) := by
  unfold m_ref03_Shift
  rw [ref_valid_limbs hx hn, Option.bind_some]
  have l1 := lim_len.2 hx
  have e1 : ¬ (m : Int) < 0 := by omega
  have e2 : ¬ (2047 : Int) < m := by omega
  simp only [Bool.not_true, Bool.false_eq_true, if_false, e1, e2, decide_false, Bool.or_self]
  have e3 : ((m : Int) / 16) = ((m / 16 : Nat) : Int) := by omega
  have e4 : ((m : Int) % 16) = ((m % 16 : Nat) : Int) := by omega
  have e5 : shlM .i64 1 ((m % 16 : Nat) : Int) = some ((2 ^ (m % 16) : Nat) : Int) := by
    have : ∀ k : Nat, k < 16 → shlM .i64 1 (k : Int) = some ((2 ^ k : Nat) : Int) := by decide +kernel
    exact this _ (Nat.mod_lt _ (by decide))
  have e6 : 2 ^ (m % 16) < 65536 := by
    have : ∀ k : Nat, k < 16 → 2 ^ k < 65536 := by decide
    exact this _ (Nat.mod_lt _ (by decide))
  have e8 : (0 : Int) ≤ ((2 ^ (m % 16) : Nat) : Int) := Int.natCast_nonneg _
  have t1 := ref_times (n := n) (a := limbs x) (b := [((2 ^ (m % 16) : Nat) : Int)]) (digs_limbs x) (digs_one (by omega)) (by omega) (by simp) hn
  rw [va_limbs, va_one, Int.toNat_natCast] at t1
  have l3 := len_mul (y := 2 ^ (m % 16)) l1 (len_one e6)
  have hv : va (List.replicate (m / 16) 0 ++ limbs (x * 2 ^ (m % 16))) = x * 2 ^ m := by
    rw [va, val_append, val_zeros, val_limbs, List.length_replicate, Int.zero_add]
    have e7 : (65536 : Int) ^ (m / 16) = ((65536 ^ (m / 16) : Nat) : Int) := by simp
    rw [e7, ← Int.natCast_mul, Int.toNat_natCast, show (65536 : Nat) = 2 ^ 16 by decide, ← Nat.pow_mul, Nat.mul_left_comm, ← Nat.pow_add, Nat.div_add_mod]
  have hd : digs (List.replicate (m / 16) 0 ++ limbs (x * 2 ^ (m % 16))) := digs_append.2 ⟨digs_zeros _, digs_limbs _⟩
  simp (disch := omega) only [quoN, remN, e3, e4, mkL_some, Option.bind_some, e5, t1, Int.toNat_natCast]
  rw [app_some (by decide) (by simp; omega), Option.bind_some, ref_limited hd (by simp; omega) hn, Option.bind_some, trim, hv]
  have : (val (List.replicate (m / 16) 0 ++ limbs (x * 2 ^ (m % 16)))).toNat = x * 2 ^ m := hv
  rw [this]
theorem bits_half {x : Nat} (h : x ≠ 0) : bits x = bits (x / 2) + 1 := by
  by_cases h1 : x = 1
  · subst h1; decide
  · simpa using bits_shr (x := x) (k := 1) (by omega)
theorem ref_Bits {n x : Nat} (h : x < LIM) (hn : 10000 < n) : m_ref03_Bits n (limbs x) = some ((bits x : Nat) : Int) := by
  unfold m_ref03_Bits
  rw [ref_valid_limbs h hn, Option.bind_some]
  have l1 := lim_len.2 h
  by_cases h0 : x = 0
  · subst h0; simp [limbs_zero, bits]
  · have l0 : (limbs x).length ≠ 0 := fun hc => h0 (limbs_len0.1 hc)
    have e0 : ¬ ((limbs x).length : Int) = 0 := by omega
    have h3 := digs_getD (digs_limbs x) ((limbs x).length - 1)
    have e1 : (((limbs x).length : Int) - 1).toNat = (limbs x).length - 1 := by omega
    simp (disch := omega) only [Bool.not_true, e0, decide_false, Bool.or_self, Bool.false_eq_true, if_false, w64, ixI, Option.bind_some, e1]
    have h4 := bits_last h0
    obtain ⟨d, hd⟩ : ∃ d : Nat, (limbs x).getD ((limbs x).length - 1) 0 = d := ⟨_, (Int.toNat_of_nonneg h3.1).symm⟩
    rw [hd] at h3 h4 ⊢
    rw [Int.toNat_natCast] at h4
    have hb16 : bits d ≤ 16 := bits_le.2 (by omega)
    obtain ⟨t, q1, q2⟩ := iter_inv (σ := Int × Int) (f := fun s => m_ref03_Bits_L1 n s.1 s.2)
      (I := fun k s => ∃ e : Nat, s.2 = e ∧ k = bits e ∧ e < 65536 ∧ 0 ≤ s.1 ∧ s.1 + bits e = bits x) (Q := fun t => t = bits x) (by
        rintro k ⟨c, j⟩ ⟨e, p1, p2, p3, p5, p4⟩
        dsimp only at p1 p4 p5
        subst p1 p2
        simp only [m_ref03_Bits_L1]
        by_cases he : e = 0
        · subst he
          right
          exact ⟨c, by simp, by simpa [bits] using p4⟩
        · left
          have := bits_half he
          have e3 : (0 : Int) < e := by omega
          have hbx : bits x ≤ 2064 := by omega
          simp (disch := omega) only [e3, decide_true, if_true, quoN, Option.bind_some, w64]
          exact ⟨_, _, rfl, by omega, e / 2, by simp, rfl, by omega, by dsimp only; omega, by dsimp only; omega⟩) (bits d) n (16 * (((limbs x).length : Int) - 1), (d : Int)) ⟨d, rfl, rfl, by omega, by dsimp only; omega, by dsimp only; omega⟩ (by omega)
    rw [q1, q2]; rfl
end
section
open Go
/-- The product over a list. -/
def pr (f : SRatio → Nat) : List SRatio → Nat
  | [] => 1
  | r :: l => f r * pr f l
theorem pr_append (f : SRatio → Nat) (l m : List SRatio) : pr f (l ++ m) = pr f l * pr f m := by
  induction l with
  | nil => simp [pr]
  | cons r l ih => simp only [List.cons_append, pr, ih, Nat.mul_assoc]
theorem pr_le {f : SRatio → Nat} {l : List SRatio} (h : ∀ r ∈ l, f r ≤ 1000) : pr f l ≤ 1000 ^ l.length := by
  induction l with
  | nil => simp [pr]
  | cons r l ih =>
    rw [pr, List.length_cons, Nat.pow_succ, Nat.mul_comm]
    exact Nat.mul_le_mul (ih (fun x hx => h x (List.mem_cons_of_mem _ hx))) (h r (List.mem_cons_self ..))
theorem pr_pos {f : SRatio → Nat} {l : List SRatio} (h : ∀ r ∈ l, 0 < f r) : 0 < pr f l := by
  induction l with
  | nil => simp [pr]
  | cons r l ih =>
    rw [pr]; exact Nat.mul_pos (h r (List.mem_cons_self ..)) (ih (fun x hx => h x (List.mem_cons_of_mem _ hx)))
abbrev pn (l : List SRatio) : Nat := pr (fun r => r.fNum.toNat) l
abbrev pd (l : List SRatio) : Nat := pr (fun r => r.fDen.toNat) l
def rok (r : SRatio) : Bool := decide (1 ≤ r.fNum) && decide (r.fNum ≤ 1000) && decide (1 ≤ r.fDen) && decide (r.fDen ≤ 1000)
def ovl (l : List SRatio) : Bool := decide (l.length ≤ 12) && l.all rok
theorem rok_iff {r : SRatio} : rok r = true ↔ 1 ≤ r.fNum ∧ r.fNum ≤ 1000 ∧ 1 ≤ r.fDen ∧ r.fDen ≤ 1000 := by
  simp [rok, and_assoc]
theorem ovl_iff {l : List SRatio} : ovl l = true ↔ l.length ≤ 12 ∧ ∀ r ∈ l, 1 ≤ r.fNum ∧ r.fNum ≤ 1000 ∧ 1 ≤ r.fDen ∧ r.fDen ≤ 1000 := by
  simp only [ovl, Bool.and_eq_true, decide_eq_true_eq, List.all_eq_true, rok_iff]
theorem ovl_take {l : List SRatio} (h : ovl l = true) (i : Nat) : ovl (l.take i) = true := by
  rw [ovl_iff] at *
  exact ⟨by simp; omega, fun r hr => h.2 r (List.mem_of_mem_take hr)⟩
def BIG : Nat := 1000 ^ 12
theorem pn_le {l : List SRatio} (h : ovl l = true) : 0 < pn l ∧ pn l ≤ BIG := by
  rw [ovl_iff] at h
  exact ⟨pr_pos (fun r hr => by have := h.2 r hr; omega), Nat.le_trans (pr_le (fun r hr => by have := h.2 r hr; omega)) (Nat.pow_le_pow_right (by decide) h.1)⟩
theorem pd_le {l : List SRatio} (h : ovl l = true) : 0 < pd l ∧ pd l ≤ BIG := by
  rw [ovl_iff] at h
  exact ⟨pr_pos (fun r hr => by have := h.2 r hr; omega), Nat.le_trans (pr_le (fun r hr => by have := h.2 r hr; omega)) (Nat.pow_le_pow_right (by decide) h.1)⟩
theorem big_lim1 : BIG < LIM := by decide +kernel
theorem big8 : BIG ^ 8 < 2 ^ 960 := by decide +kernel
theorem odds_Valid {n : Nat} {l : List SRatio} (hl : l.length ≤ ML) (hn : l.length < n) : m_odds_Valid n l = some (ovl l) := by
  have h2 : m_slices_ContainsFunc_odds_Ratio_odds_Ratio n l (fun y1 => m_odds_Valid_1 n y1) = some (l.any fun r => !rok r) :=
    contains_loop n l (fun y1 => m_odds_Valid_1 n y1) (fun r => !rok r) (fun r _ => by
      rw [m_odds_Valid_1]; congr 1
      simp only [rok, Bool.not_and, ← decide_not, Int.not_le, Bool.or_assoc]) hl hn
  unfold m_odds_Valid
  rw [h2]
  by_cases h : l.length ≤ 12
  · simp only [show (l.length : Int) ≤ 12 by omega, decide_true, if_true, Option.bind_some, Bool.true_and, ovl, h]
    rw [List.not_any_eq_all_not]; simp
  · simp [ovl, h, show ¬ (l.length : Int) ≤ 12 by omega]
theorem ref28_Valid {n : Nat} {l : List SRatio} (hl : l.length ≤ ML) (hn : l.length < n) : m_ref28_Valid n l = some (ovl l) := by
  unfold m_ref28_Valid
  rcases iter_scan (f := fun s => m_ref28_Valid_L1 n l s) l.length (fun i => !rok (l.getD i default)) (fun _ => .inl false) (.inr ()) l.length 0 n 0 (by omega) (fun j hj => by
    simp only [m_ref28_Valid_L1, show (j : Int) < l.length by omega, decide_true, if_true]
    rw [ix_get default hj, wadd1 hj hl]
    generalize l.getD j default = r
    simp only [Option.bind_some, rok]
    by_cases h1 : r.fNum < 1
    · simp [h1, show ¬ 1 ≤ r.fNum by omega]
    · by_cases h2 : 1000 < r.fNum
      · simp [h1, h2, show ¬ r.fNum ≤ 1000 by omega]
      · by_cases h3 : r.fDen < 1
        · simp [h1, h2, h3, show ¬ 1 ≤ r.fDen by omega, show r.fNum ≤ 1000 by omega]
        · by_cases h4 : 1000 < r.fDen
          · simp [h1, h2, h3, h4, show ¬ r.fDen ≤ 1000 by omega, show r.fNum ≤ 1000 by omega, show 1 ≤ r.fDen by omega]
          · simp [h1, h2, h3, h4, show 1 ≤ r.fNum by omega, show r.fNum ≤ 1000 by omega, show 1 ≤ r.fDen by omega, show r.fDen ≤ 1000 by omega]) (by simp [m_ref28_Valid_L1]) hn rfl with ⟨i, _, h2, h3, _, h5⟩ | ⟨h1, h2⟩
  · rw [h5]
    simp only [Option.bind_some]
    have : l.all rok = false := by
      rw [List.all_eq_false]
      exact ⟨l.getD i default, by simp [h2], by rw [Bool.not_eq_true'] at h3; rw [h3]; decide⟩
    simp [ovl, this]
  · rw [h2]
    simp only [Option.bind_some]
    have : l.all rok = true := by
      rw [List.all_eq_true]
      intro d hd
      obtain ⟨i, h, rfl⟩ := List.getElem_of_mem hd
      have := h1 i (by omega) h
      simpa [List.getD_eq_getElem?_getD, h] using this
    simp only [ovl, this, Bool.and_true]
    congr 1
    rw [Bool.eq_iff_iff]; simp; omega
theorem odds_number {n : Nat} {x : Int} (h : 0 ≤ x) (h2 : x ≤ 9223372036854775807) (hn : 100 < n) : m_odds_number n x = some (limbs x.toNat) := by
  obtain ⟨k, rfl⟩ := Int.eq_ofNat_of_zero_le h
  unfold m_odds_number
  rw [nat_Of (x := k) (by omega) hn]; rfl
theorem odds_times {n x y : Nat} (hx : x < LIM) (hy : y < LIM) (h : x * y < LIM) (hn : 10000 < n) : m_odds_times n (limbs x) (limbs y) = some (limbs (x * y)) := by
  unfold m_odds_times
  rw [nat_Mul hx hy hn, if_pos h]; rfl
theorem pr_take_succ (f : SRatio → Nat) {l : List SRatio} {i : Nat} (h : i < l.length) : pr f (l.take (i + 1)) = pr f (l.take i) * f (l.getD i default) := by
  rw [List.take_succ_eq_append_getElem h, pr_append]
  simp [pr, h]
theorem small_lim {x : Nat} (h : x ≤ 1000) : x < LIM := Nat.lt_of_le_of_lt (Nat.le_trans h (show 1000 ≤ BIG by decide)) big_lim1
theorem odds_parts {n : Nat} {l : List SRatio} (h : ovl l = true) (hn : 10000 < n) : m_odds_parts n l = some (limbs (pn l), limbs (pd l)) := by
  unfold m_odds_parts
  have hv := ovl_iff.1 h
  rw [odds_number (by decide) (by decide) (by omega), Option.bind_some, Option.bind_some]
  obtain ⟨t, h1, h2⟩ := iter_inv (σ := List Int × List Int × Int) (f := fun s => m_odds_parts_L1 n l s.1 s.2.1 s.2.2)
    (I := fun k s => ∃ i : Nat, s = (limbs (pn (l.take i)), limbs (pd (l.take i)), (i : Int)) ∧ i + k = l.length) (Q := fun t => t = (limbs (pn l), limbs (pd l))) (by
      rintro k s ⟨i, rfl, h1⟩
      simp only [m_odds_parts_L1]
      by_cases hk : k = 0
      · right
        have e : i = l.length := by omega
        subst e
        exact ⟨(limbs (pn l), limbs (pd l)), by simp, rfl⟩
      · left
        have hi : i < l.length := by omega
        have hr := hv.2 (l.getD i default) (by simp [hi])
        have p1 := pn_le (ovl_take h i)
        have p2 := pd_le (ovl_take h i)
        have p3 := pn_le (ovl_take h (i + 1))
        have p4 := pd_le (ovl_take h (i + 1))
        have s1 : pn (l.take (i + 1)) = pn (l.take i) * (l.getD i default).fNum.toNat := pr_take_succ (fun r => r.fNum.toNat) hi
        have s2 : pd (l.take (i + 1)) = pd (l.take i) * (l.getD i default).fDen.toNat := pr_take_succ (fun r => r.fDen.toNat) hi
        have bl := big_lim1
        simp only [show (i : Int) < l.length by omega, decide_true, if_true]
        rw [ix_get default hi, Option.bind_some]
        generalize l.getD i default = r at *
        rw [odds_number (by omega) (by omega) (by omega), Option.bind_some, odds_times (by omega) (small_lim (by omega)) (by rw [← s1]; omega) hn, Option.bind_some, odds_number (by omega) (by omega) (by omega), Option.bind_some,
          odds_times (by omega) (small_lim (by omega)) (by rw [← s2]; omega) hn, Option.bind_some, ← s1, ← s2, wadd1 (show i < 1000 by omega) (by decide)]
        exact ⟨_, k - 1, rfl, by omega, i + 1, rfl, by omega⟩) l.length n (limbs (1 : Int).toNat, limbs (1 : Int).toNat, 0) ⟨0, rfl, by omega⟩ (by omega)
  rw [h1, h2]; rfl
end
section
open Go
/-- The greatest w for which 2^w times the second number is at most the first one. -/
def isW (num den : Nat) (w : Int) : Prop := ∃ p q : Nat, w = (p : Int) - q ∧ den * 2 ^ p ≤ num * 2 ^ q ∧ num * 2 ^ q < 2 * (den * 2 ^ p)
theorem isW_mono {n1 d1 n2 d2 : Nat} {w1 w2 : Int} (h1 : isW n1 d1 w1) (h2 : isW n2 d2 w2) (hd2 : 0 < d2) (h : n1 * d2 ≤ n2 * d1) : w1 ≤ w2 := by
  obtain ⟨p, q, rfl, a1, a2⟩ := h1
  obtain ⟨p', q', rfl, b1, b2⟩ := h2
  refine Int.not_lt.1 fun hc => ?_
  have hc' : p' + 1 + q ≤ p + q' := by omega
  -- d1 2^p ≤ n1 2^q, n2 2^q' < d2 2^(p'+1)
  have c1 : (d1 * 2 ^ p) * (d2 * 2 ^ q') ≤ (n1 * 2 ^ q) * (d2 * 2 ^ q') := Nat.mul_le_mul_right _ a1
  have hn1 : 0 < d1 ∨ d1 = 0 := by omega
  have c2 : (n1 * d2) * (2 ^ q * 2 ^ q') ≤ (n2 * d1) * (2 ^ q * 2 ^ q') := Nat.mul_le_mul_right _ h
  rcases hn1 with hd1 | hd1
  · have c3 : (n2 * 2 ^ q') * (d1 * 2 ^ q) < 2 * (d2 * 2 ^ p') * (d1 * 2 ^ q) := Nat.mul_lt_mul_of_pos_right b2 (Nat.mul_pos hd1 (Nat.pow_pos (by decide)))
    have c4 : 2 ^ (p' + 1 + q) ≤ 2 ^ (p + q') := Nat.pow_le_pow_right (by decide) hc'
    have c5 : (d1 * d2) * 2 ^ (p' + 1 + q) ≤ (d1 * d2) * 2 ^ (p + q') := Nat.mul_le_mul_left _ c4
    rw [Nat.pow_add, Nat.pow_add, Nat.pow_add] at c5
    generalize 2 ^ p = P at *
    generalize 2 ^ q = Q at *
    generalize 2 ^ p' = P' at *
    generalize 2 ^ q' = Q' at *
    have e1 : d1 * P * (d2 * Q') = d1 * d2 * (P * Q') := by grind
    have e2 : n1 * Q * (d2 * Q') = n1 * d2 * (Q * Q') := by grind
    have e3 : n2 * Q' * (d1 * Q) = n2 * d1 * (Q * Q') := by grind
    have e4 : 2 * (d2 * P') * (d1 * Q) = d1 * d2 * (P' * 2 ^ 1 * Q) := by grind
    omega
  · subst hd1; omega
theorem isW_uniq {n d : Nat} {w1 w2 : Int} (hd : 0 < d) (h1 : isW n d w1) (h2 : isW n d w2) : w1 = w2 := by
  have := isW_mono h1 h2 hd (Nat.le_refl _)
  have := isW_mono h2 h1 hd (Nat.le_refl _)
  omega
theorem isW_scale {n d c : Nat} {w : Int} (hc : 0 < c) : isW (c * n) (c * d) w ↔ isW n d w := by
  constructor
  · rintro ⟨p, q, rfl, a1, a2⟩
    have e1 : c * n * 2 ^ q = c * (n * 2 ^ q) := by grind
    have e2 : c * d * 2 ^ p = c * (d * 2 ^ p) := by grind
    have e3 : 2 * (c * (d * 2 ^ p)) = c * (2 * (d * 2 ^ p)) := by grind
    rw [e1, e2] at a1 a2
    rw [e3] at a2
    exact ⟨p, q, rfl, Nat.le_of_mul_le_mul_left a1 hc, Nat.lt_of_mul_lt_mul_left a2⟩
  · rintro ⟨p, q, rfl, a1, a2⟩
    have e1 : c * n * 2 ^ q = c * (n * 2 ^ q) := by grind
    have e2 : c * d * 2 ^ p = c * (d * 2 ^ p) := by grind
    have e3 : 2 * (c * (d * 2 ^ p)) = c * (2 * (d * 2 ^ p)) := by grind
    refine ⟨p, q, rfl, ?_, ?_⟩
    · rw [e1, e2]; exact Nat.mul_le_mul_left c a1
    · rw [e1, e2, e3]; exact Nat.mul_lt_mul_of_pos_left a2 hc
theorem bits_lt {x : Nat} (h : x ≠ 0) : x < 2 ^ bits x ∧ 2 ^ bits x ≤ 2 * x := by
  have h1 : x < 2 ^ bits x := bits_le.1 (Nat.le_refl _)
  have h0 : 0 < bits x := by simp [bits, h]
  have h2 : ¬ bits x ≤ bits x - 1 := by omega
  rw [bits_le] at h2
  refine ⟨h1, ?_⟩
  rw [show bits x = bits x - 1 + 1 by omega, Nat.pow_succ]; omega
/-- From the numbers of binary digits. -/
theorem isW_bits {num den : Nat} (hn : num ≠ 0) (hd : den ≠ 0) (w0 : Int) (hw : w0 = (bits num : Int) - bits den) (p q : Nat) (hp : (p : Int) = max w0 0) (hq : (q : Int) = max (-w0) 0) : isW num den (if num * 2 ^ q < den * 2 ^ p then w0 - 1 else w0) := by
  have h1 := bits_lt hn
  have h2 := bits_lt hd
  have e : bits num + q = bits den + p := by omega
  have e1 : num * 2 ^ q < 2 ^ (bits num + q) := by rw [Nat.pow_add]; exact Nat.mul_lt_mul_of_pos_right h1.1 (Nat.pow_pos (by decide))
  have e2 : 2 ^ (bits num + q) ≤ 2 * (num * 2 ^ q) := by rw [Nat.pow_add, ← Nat.mul_assoc]; exact Nat.mul_le_mul_right _ h1.2
  have e3 : den * 2 ^ p < 2 ^ (bits den + p) := by rw [Nat.pow_add]; exact Nat.mul_lt_mul_of_pos_right h2.1 (Nat.pow_pos (by decide))
  have e4 : 2 ^ (bits den + p) ≤ 2 * (den * 2 ^ p) := by rw [Nat.pow_add, ← Nat.mul_assoc]; exact Nat.mul_le_mul_right _ h2.2
  rw [e] at e1 e2
  split
  · have e5 : num * 2 ^ (q + 1) = 2 * (num * 2 ^ q) := by rw [Nat.pow_succ]; grind
    exact ⟨p, q + 1, by omega, by rw [e5]; omega, by rw [e5]; omega⟩
  · exact ⟨p, q, by omega, by omega, by omega⟩
theorem p2pos (n : Nat) : 0 < 2 ^ n := Nat.pow_pos (by decide)
theorem lim960 : 2 ^ 960 * 2 ^ 960 < LIM := by decide +kernel
theorem shift_lim {x p b : Nat} (hx : x < 2 ^ 960) (hb : b ≤ 960) (hp : p ≤ b) : x * 2 ^ p < LIM := by
  have h1 := p2le (show p ≤ 960 by omega)
  have h2 := Nat.mul_lt_mul_of_lt_of_le hx h1 (p2pos 960)
  exact Nat.lt_trans h2 lim960
theorem p960_lim {x : Nat} (h : x < 2 ^ 960) : x < LIM := by
  have := shift_lim (p := 0) h (Nat.le_refl _) (Nat.zero_le _)
  simpa using this
theorem odds_floor {n num den : Nat} (h1 : num ≠ 0) (h2 : den ≠ 0) (h3 : num < 2 ^ 960) (h4 : den < 2 ^ 960) (hn : 10000 < n) : ∃ w, m_odds_floor n (limbs num) (limbs den) = some w ∧ isW num den w ∧ -960 ≤ w ∧ w ≤ 960 := by
  have b1 : bits num ≤ 960 := bits_le.2 h3
  have b2 : bits den ≤ 960 := bits_le.2 h4
  have p1 : 0 < bits num := by simp [bits, h1]
  have p2 : 0 < bits den := by simp [bits, h2]
  obtain ⟨w0, hw⟩ : ∃ w0 : Int, w0 = (bits num : Int) - bits den := ⟨_, rfl⟩
  obtain ⟨p, hp⟩ : ∃ p : Nat, (p : Int) = max w0 0 := ⟨(max w0 0).toNat, by omega⟩
  obtain ⟨q, hq⟩ : ∃ q : Nat, (q : Int) = max (-w0) 0 := ⟨(max (-w0) 0).toNat, by omega⟩
  have s1 := shift_lim h4 (b := 960) (p := p) (Nat.le_refl _) (by omega)
  have s2 := shift_lim h3 (b := 960) (p := q) (Nat.le_refl _) (by omega)
  have hW := isW_bits h1 h2 w0 hw p q hp hq
  unfold m_odds_floor
  rw [nat_Bits (p960_lim h3) hn, Option.bind_some, nat_Bits (p960_lim h4) hn, Option.bind_some, w64 (by omega) (by omega), ← hw, ← hp, w64 (x := -w0) (by omega) (by omega), ← hq, nat_Shift (p960_lim h4) (by omega) hn, if_pos s1, Option.bind_some, nat_Shift (p960_lim h3) (by omega) hn, if_pos s2, Option.bind_some]
  dsimp only
  rw [nat_Compare s1 s2 hn, Option.bind_some]
  by_cases hc : num * 2 ^ q < den * 2 ^ p
  · rw [if_pos hc] at hW
    simp only [sgn_gt.2 hc, decide_true, if_true, Option.bind_some]
    rw [w64 (by omega) (by omega)]
    exact ⟨_, rfl, hW, by omega, by omega⟩
  · rw [if_neg hc] at hW
    have : ¬ 0 < sgn (den * 2 ^ p) (num * 2 ^ q) := fun h => hc (sgn_gt.1 h)
    simp only [this, decide_false, Bool.false_eq_true, if_false, Option.bind_some]
    exact ⟨_, rfl, hW, by omega, by omega⟩
theorem odds_eighth {n x : Nat} (h : x ≤ BIG) (hn : 10000 < n) : m_odds_eighth n (limbs x) = some (limbs (x ^ 8)) ∧ x ^ 8 < 2 ^ 960 := by
  have h1 : x ^ 8 < 2 ^ 960 := Nat.lt_of_le_of_lt (Nat.pow_le_pow_left h 8) big8
  unfold m_odds_eighth
  have := nat_Power (n := n) (x := x) (m := 8) (Nat.lt_of_le_of_lt h big_lim1) (by decide) hn
  rw [show (8 : Int) = ((8 : Nat) : Int) from rfl, this, if_pos (p960_lim h1)]
  exact ⟨rfl, h1⟩
theorem odds_Weight {n : Nat} {l : List SRatio} (h : ovl l = true) (hn : 10000 < n) : ∃ w, m_odds_Weight n l = some (w, 0) ∧ isW (pn l ^ 8) (pd l ^ 8) w ∧ -960 ≤ w ∧ w ≤ 960 := by
  have hv := ovl_iff.1 h
  have p1 := pn_le h
  have p2 := pd_le h
  have e1 := odds_eighth (n := n) p1.2 hn
  have e2 := odds_eighth (n := n) p2.2 hn
  have z1 : pn l ^ 8 ≠ 0 := Nat.ne_of_gt (Nat.pow_pos p1.1)
  have z2 : pd l ^ 8 ≠ 0 := Nat.ne_of_gt (Nat.pow_pos p2.1)
  obtain ⟨w, q1, q2, q3⟩ := odds_floor (n := n) z1 z2 e1.2 e2.2 hn
  refine ⟨w, ?_, q2, q3⟩
  unfold m_odds_Weight
  rw [odds_Valid (by simp only [ML]; omega) (by omega), h]
  simp only [Option.bind_some, Bool.not_true, Bool.false_eq_true, if_false]
  rw [odds_parts h hn, Option.bind_some]
  dsimp only
  rw [e1.1, Option.bind_some, e2.1, Option.bind_some, q1]; rfl
end
section
open Go
theorem limbs_small {x : Int} (h0 : 1 ≤ x) (h : x ≤ 1000) : ([x] : List Int) = limbs x.toNat := by
  rw [limbs_pos (by omega), show x.toNat / 65536 = 0 by omega, limbs_zero, show ((x.toNat % 65536 : Nat) : Int) = x by omega]
theorem ref28_Product {n : Nat} {l : List SRatio} (h : ovl l = true) (hn : 100000 < n) : m_ref28_Product n l = some (limbs (pn l / Nat.gcd (pn l) (pd l)), limbs (pd l / Nat.gcd (pn l) (pd l)), 0) := by
  unfold m_ref28_Product
  have hv := ovl_iff.1 h
  have p1 := pn_le h
  have p2 := pd_le h
  have bl := big_lim1
  have g0 : 0 < Nat.gcd (pn l) (pd l) := Nat.gcd_pos_of_pos_left _ p1.1
  have g1 : Nat.gcd (pn l) (pd l) ≤ pn l := Nat.gcd_le_left _ p1.1
  rw [ref28_Valid (by simp only [ML]; omega) (by omega), h]
  simp only [Option.bind_some, Bool.not_true, Bool.false_eq_true, if_false]
  obtain ⟨t, h1, h2⟩ := iter_inv (σ := List Int × List Int × Int) (f := fun s => m_ref28_Product_L1 n l s.1 s.2.1 s.2.2)
    (I := fun k s => ∃ i : Nat, s = (limbs (pn (l.take i)), limbs (pd (l.take i)), (i : Int)) ∧ i + k = l.length) (Q := fun t => t = (limbs (pn l), limbs (pd l))) (by
      rintro k s ⟨i, rfl, h1⟩
      simp only [m_ref28_Product_L1]
      by_cases hk : k = 0
      · right
        have e : i = l.length := by omega
        subst e
        exact ⟨(limbs (pn l), limbs (pd l)), by simp, rfl⟩
      · left
        have hi : i < l.length := by omega
        have hr := hv.2 (l.getD i default) (by simp [hi])
        have p1 := pn_le (ovl_take h i)
        have p2 := pd_le (ovl_take h i)
        have p3 := pn_le (ovl_take h (i + 1))
        have p4 := pd_le (ovl_take h (i + 1))
        have s1 : pn (l.take (i + 1)) = pn (l.take i) * (l.getD i default).fNum.toNat := pr_take_succ (fun r => r.fNum.toNat) hi
        have s2 : pd (l.take (i + 1)) = pd (l.take i) * (l.getD i default).fDen.toNat := pr_take_succ (fun r => r.fDen.toNat) hi
        simp only [show (i : Int) < l.length by omega, decide_true, if_true]
        rw [ix_get default hi]
        simp only [Option.bind_some]
        generalize l.getD i default = r at *
        rw [limbs_small (by omega) (by omega), ref_Mul (by omega) (small_lim (by omega)) (by omega), ← s1, if_pos (by omega), Option.bind_some]
        rw [limbs_small (x := r.fDen) (by omega) (by omega), ref_Mul (by omega) (small_lim (by omega)) (by omega), ← s2, if_pos (by omega), Option.bind_some, wadd1 (show i < 1000 by omega) (by decide)]
        exact ⟨_, k - 1, rfl, by omega, i + 1, rfl, by omega⟩) l.length n ([1], [1], 0) ⟨0, by rw [one_limbs]; rfl, by omega⟩ (by omega)
  rw [h1, Option.bind_some, h2]
  dsimp only
  rw [ref_Gcd (by omega) (by omega) (by omega), Option.bind_some]
  dsimp only
  rw [ref_Divide (by omega) (by omega) g0 (by omega), Option.bind_some, ref_Divide (by omega) (by omega) g0 (by omega)]; rfl
/-- A product in lowest terms. -/
theorem low {a b : Nat} (ha : 0 < a) (hb : 0 < b) : 0 < Nat.gcd a b ∧ a = Nat.gcd a b * (a / Nat.gcd a b) ∧ b = Nat.gcd a b * (b / Nat.gcd a b) ∧ 0 < a / Nat.gcd a b ∧ 0 < b / Nat.gcd a b ∧ a / Nat.gcd a b ≤ a ∧ b / Nat.gcd a b ≤ b := by
  have h0 : 0 < Nat.gcd a b := Nat.gcd_pos_of_pos_left _ ha
  have h1 : a = Nat.gcd a b * (a / Nat.gcd a b) := (Nat.mul_div_cancel' (Nat.gcd_dvd_left a b)).symm
  have h2 : b = Nat.gcd a b * (b / Nat.gcd a b) := (Nat.mul_div_cancel' (Nat.gcd_dvd_right a b)).symm
  refine ⟨h0, h1, h2, Nat.div_pos (Nat.gcd_le_left _ ha) h0, Nat.div_pos (Nat.gcd_le_right _ hb) h0, Nat.div_le_self _ _, Nat.div_le_self _ _⟩
theorem ref28_Weight {n : Nat} {l : List SRatio} (h : ovl l = true) (hn : 100000 < n) : ∃ w, m_ref28_Weight n l = some (w, 0) ∧ isW (pn l ^ 8) (pd l ^ 8) w := by
  have p1 := pn_le h
  have p2 := pd_le h
  obtain ⟨g0, e1, e2, a0, b0, a1, b1⟩ := low p1.1 p2.1
  unfold m_ref28_Weight
  rw [ref28_Product h hn, Option.bind_some]
  dsimp only
  generalize hA : pn l / Nat.gcd (pn l) (pd l) = A at *
  generalize hB : pd l / Nat.gcd (pn l) (pd l) = B at *
  generalize Nat.gcd (pn l) (pd l) = g at *
  have hA8 : A ^ 8 < 2 ^ 960 := Nat.lt_of_le_of_lt (Nat.pow_le_pow_left (Nat.le_trans a1 p1.2) 8) big8
  have hB8 : B ^ 8 < 2 ^ 960 := Nat.lt_of_le_of_lt (Nat.pow_le_pow_left (Nat.le_trans b1 p2.2) 8) big8
  have bl := big_lim1
  have q1 := ref_Power (n := n) (x := A) (m := 8) (by omega) (by decide) (by omega)
  have q2 := ref_Power (n := n) (x := B) (m := 8) (by omega) (by decide) (by omega)
  rw [if_pos (p960_lim hA8)] at q1
  rw [if_pos (p960_lim hB8)] at q2
  rw [show ((8 : Nat) : Int) = 8 from rfl] at q1 q2
  have z1 : A ^ 8 ≠ 0 := Nat.ne_of_gt (Nat.pow_pos a0)
  have z2 : B ^ 8 ≠ 0 := Nat.ne_of_gt (Nat.pow_pos b0)
  simp only [decide_true, Bool.not_true, Bool.false_eq_true, if_false]
  rw [q1, Option.bind_some, q2, Option.bind_some]
  dsimp only
  rw [ref_Bits (p960_lim hA8) (by omega), Option.bind_some, ref_Bits (p960_lim hB8) (by omega), Option.bind_some]
  have hsc : ∀ w, isW (A ^ 8) (B ^ 8) w → isW (pn l ^ 8) (pd l ^ 8) w := fun w hw => by
    rw [e1, e2, Nat.mul_pow, Nat.mul_pow]
    exact (isW_scale (Nat.pow_pos g0)).2 hw
  clear q1 q2 e1 e2
  generalize A ^ 8 = X at *
  generalize B ^ 8 = Y at *
  have c1 : bits X ≤ 960 := bits_le.2 hA8
  have c2 : bits Y ≤ 960 := bits_le.2 hB8
  obtain ⟨w0, hw⟩ : ∃ w0 : Int, w0 = (bits X : Int) - bits Y := ⟨_, rfl⟩
  obtain ⟨p, hp⟩ : ∃ p : Nat, (p : Int) = max w0 0 := ⟨(max w0 0).toNat, by omega⟩
  obtain ⟨q, hq⟩ : ∃ q : Nat, (q : Int) = max (-w0) 0 := ⟨(max (-w0) 0).toNat, by omega⟩
  have s1 := shift_lim hB8 (b := 960) (p := p) (Nat.le_refl _) (by omega)
  have s2 := shift_lim hA8 (b := 960) (p := q) (Nat.le_refl _) (by omega)
  have hW := hsc _ (isW_bits z1 z2 w0 hw p q hp hq)
  rw [w64 (by omega) (by omega), ← hw]
  have hxy : (if decide (0 < w0) = true then (m_ref03_Shift n (limbs Y) w0).bind fun v7 => some (limbs X, v7.1) else (m_ref03_Shift n (limbs X) (IntKind.i64.wrap (-w0))).bind fun v8 => some (v8.1, limbs Y) : Option (List Int × List Int)) = some (limbs (X * 2 ^ q), limbs (Y * 2 ^ p)) := by
    by_cases hpos : 0 < w0
    · have : q = 0 := by omega
      subst this
      simp only [hpos, decide_true, if_true]
      rw [show w0 = (p : Int) by omega, ref_Shift (p960_lim hB8) (by omega) (by omega), if_pos s1, Nat.pow_zero, Nat.mul_one]; rfl
    · have : p = 0 := by omega
      subst this
      simp only [hpos, decide_false, Bool.false_eq_true, if_false]
      rw [w64 (by omega) (by omega), show -w0 = (q : Int) by omega, ref_Shift (p960_lim hA8) (by omega) (by omega), if_pos s2, Nat.pow_zero, Nat.mul_one]; rfl
  rw [hxy, Option.bind_some]
  dsimp only
  rw [ref_Compare s2 s1 (by omega), Option.bind_some]
  by_cases hc : X * 2 ^ q < Y * 2 ^ p
  · rw [if_pos hc] at hW
    simp only [sgn_lt.2 hc, decide_true, if_true, Option.bind_some]
    rw [w64 (by omega) (by omega)]
    exact ⟨_, rfl, hW⟩
  · rw [if_neg hc] at hW
    have : ¬ sgn (X * 2 ^ q) (Y * 2 ^ p) < 0 := fun h => hc (sgn_lt.1 h)
    simp only [this, decide_false, Bool.false_eq_true, if_false, Option.bind_some]
    exact ⟨_, rfl, hW⟩
end
section
open Go
theorem fu4 : 10000 < FU := by decide
theorem fu5 : 100000 < FU := by decide
end
section
open Go
end
end Go.Proofs.YtgcmhhcopeiomaaGreat.Ab
