/- What the reference's functions on numbers compute. Conditions: none. -/
import Derived.Test.YtagdgndoabomiaaDoorNd
namespace Go.Proofs.YtagdgndoabomiaaDoor.Ab
open Go

theorem ref_Valid {n : Nat} {a : List Int} (hl : a.length ≤ ML) (hn : a.length < n) : m_ref03_Valid n a = some (vld a) := by
  unfold m_ref03_Valid
  rcases iter_scan (f := fun s => m_ref03_Valid_L1 n a s) a.length (fun i => !(decide (0 ≤ a.getD i 0) && decide (a.getD i 0 < 65536))) (fun _ => .inl false) (.inr ()) a.length 0 n 0 (by omega) (fun j hj => by
    simp only [m_ref03_Valid_L1, show (j : Int) < a.length by omega, decide_true, if_true]
    rw [ix_get 0 hj]
    generalize a.getD j 0 = d
    simp only [Option.bind_some]
    by_cases h1 : d < 0
    · simp [h1, show ¬ 0 ≤ d by omega]
    · by_cases h2 : (65536 : Int) ≤ d
      · simp [h1, h2, show ¬ d < 65536 by omega]
      · simp only [h1, h2, decide_false, Bool.not_false, if_true, Option.bind_some, Bool.or_self, Bool.false_eq_true, if_false, show 0 ≤ d by omega, show d < 65536 by omega, decide_true, Bool.and_self, Bool.not_true]
        rw [wadd1 hj hl]) (by simp [m_ref03_Valid_L1]) hn rfl with ⟨i, _, h2, h3, _, h5⟩ | ⟨h1, h2⟩
  · rw [h5]
    simp only [Option.bind_some]
    have : (a.all fun d => decide (0 ≤ d) && decide (d < 65536)) = false := by
      rw [List.all_eq_false]
      exact ⟨a.getD i 0, by simp [h2], by rw [Bool.not_eq_true'] at h3; rw [h3]; decide⟩
    simp [vld, this]
  · rw [h2]
    simp only [Option.bind_some]
    have : (a.all fun d => decide (0 ≤ d) && decide (d < 65536)) = true := by
      rw [List.all_eq_true]
      intro d hd
      obtain ⟨i, h, rfl⟩ := List.getElem_of_mem hd
      have := h1 i (by omega) h
      simpa [List.getD_eq_getElem?_getD, h] using this
    simp only [vld, this, Bool.and_true]
    by_cases h5 : a.length = 0
    · simp [h5]
    · have h6 : ¬ (a.length : Int) = 0 := by omega
      simp only [h6, h5, decide_false, Bool.not_false, Bool.and_true, Bool.false_or]
      by_cases h7 : a.length ≤ 128
      · simp (disch := omega) only [h7, show (a.length : Int) ≤ 128 by omega, decide_true, if_true, w64, ixI, Option.bind_some, Bool.true_and]
        rw [show ((a.length : Int) - 1).toNat = a.length - 1 by omega]
      · simp [h7, show ¬ (a.length : Int) ≤ 128 by omega]
theorem ref_valid_limbs {n x : Nat} (h : x < LIM) (hn : 10000 < n) : m_ref03_Valid n (limbs x) = some true := by
  have := lim_len.2 h
  rw [ref_Valid (by simp only [ML]; omega) (by omega), vld_limbs h]
theorem ref_compare {n x y : Nat} (hx : (limbs x).length ≤ 1000) (hy : (limbs y).length ≤ 1000) (hn : 10000 < n) : m_ref03_compare n (limbs x) (limbs y) = some (sgn x y) := by
  unfold m_ref03_compare
  by_cases hl : (limbs x).length = (limbs y).length
  · have e : ((limbs x).length : Int) = (limbs y).length := by omega
    simp only [e, decide_true, Bool.not_true, Bool.false_eq_true, if_false]
    rw [← e, w64 (by omega) (by omega)]
    generalize ha : limbs x = a at *
    generalize hb : limbs y = b at *
    have da : digs a := ha ▸ digs_limbs x
    have db : digs b := hb ▸ digs_limbs y
    have vx : val a = x := by rw [← ha, val_limbs]
    have vy : val b = y := by rw [← hb, val_limbs]
    obtain ⟨t, h1, h2⟩ := iter_inv (σ := Int) (f := fun s => m_ref03_compare_L1 n a b s) (I := fun k s => s = (k : Int) - 1 ∧ k ≤ a.length ∧ ∀ i, k ≤ i → i < a.length → a.getD i 0 = b.getD i 0)
      (Q := fun t => Sum.elim id (fun _ => 0) t = sgn x y) (by
        rintro k s ⟨rfl, h2, h3⟩
        simp only [m_ref03_compare_L1]
        by_cases hk : k = 0
        · subst hk
          right
          refine ⟨.inr (), by simp, ?_⟩
          have := drop_ext hl h3
          simp only [List.drop_zero] at this
          subst this
          have : x = y := by omega
          subst this
          simp [sgn]
        · have e1 : (0 : Int) ≤ (k : Int) - 1 := by omega
          have e2 : ((k : Int) - 1).toNat = k - 1 := by omega
          have hdr : ∀ i, k - 1 + 1 ≤ i → i < a.length → a.getD i 0 = b.getD i 0 := fun i q1 q2 => h3 i (by omega) q2
          simp (disch := omega) only [e1, decide_true, if_true, ixI, Option.bind_some, e2, w64]
          by_cases hlt : a.getD (k - 1) 0 < b.getD (k - 1) 0
          · right
            refine ⟨.inl (-1), by simp only [hlt, decide_true, if_true], ?_⟩
            have := val_lt_of da db (k := k - 1) (by omega) hl (drop_ext hl hdr) hlt
            simp only [sgn, show x < y by omega, Sum.elim_inl, id, if_true]
          · by_cases hgt : b.getD (k - 1) 0 < a.getD (k - 1) 0
            · right
              refine ⟨.inl 1, by simp only [hlt, hgt, decide_true, decide_false, Bool.false_eq_true, if_false, if_true], ?_⟩
              have := val_lt_of db da (k := k - 1) (by omega) hl.symm (drop_ext hl hdr).symm hgt
              simp only [sgn, show ¬ x < y by omega, show ¬ x = y by omega, Sum.elim_inl, id, if_false]
            · left
              refine ⟨(k : Int) - 1 - 1, k - 1, by simp only [hlt, hgt, decide_false, Bool.false_eq_true, if_false], by omega, by omega, by omega, fun i q1 q2 => ?_⟩
              by_cases hi : i = k - 1
              · subst hi; omega
              · exact h3 i (by omega) q2) a.length n ((a.length : Int) - 1) ⟨rfl, by omega, fun i q1 q2 => by omega⟩ (by omega)
    rw [h1]
    cases t with
    | inl u => exact congrArg some h2
    | inr u => exact congrArg some h2
  · have e : ¬ ((limbs x).length : Int) = (limbs y).length := by omega
    simp only [e, decide_false, Bool.not_false, if_true]
    by_cases h1 : (limbs x).length < (limbs y).length
    · have := sgn_len h1
      simp [sgn, this, h1]
    · have := sgn_len (x := y) (y := x) (by omega)
      simp [sgn, show ¬ x < y by omega, show ¬ x = y by omega, h1]
theorem ref_Compare {n x y : Nat} (hx : x < LIM) (hy : y < LIM) (hn : 10000 < n) : m_ref03_Compare n (limbs x) (limbs y) = some (sgn x y) := by
  have h1 := lim_len.2 hx
  have h2 := lim_len.2 hy
  simp [m_ref03_Compare, ref_valid_limbs hx hn, ref_valid_limbs hy hn, ref_compare (n := n) (x := x) (y := y) (by omega) (by omega) hn]
theorem ref_trim {n : Nat} {a : List Int} (h : digs a) (hl : a.length ≤ 1000) (hn : 10000 < n) : m_ref03_trim n a = some (trim a) := by
  unfold m_ref03_trim
  obtain ⟨t, h1, k, h2, h3, h4⟩ := iter_inv (σ := Int) (f := fun s => m_ref03_trim_L1 n a s) (I := fun k s => s = k ∧ k ≤ a.length ∧ trim (a.take k) = trim a) (Q := fun t => ∃ k : Nat, t = k ∧ k ≤ a.length ∧ a.take k = trim a) (by
    rintro k s ⟨rfl, h2, h3⟩
    simp only [m_ref03_trim_L1]
    have hlt : (a.take k).length = k := by simp; omega
    by_cases h0 : k = 0
    · subst h0
      right
      exact ⟨0, by simp, 0, rfl, by omega, by rw [← h3, trim_end (digs_take h _) (.inl hlt)]⟩
    · have e1 : (0 : Int) < k := by omega
      have e2 : ((k : Int) - 1).toNat = k - 1 := by omega
      have hg : (a.take k).getD ((a.take k).length - 1) 0 = a.getD (k - 1) 0 := by rw [hlt, getD_take (by omega)]
      simp (disch := omega) only [e1, decide_true, if_true, w64, ixI, Option.bind_some, Bool.true_and, e2]
      by_cases hz : a.getD (k - 1) 0 = 0
      · left
        simp only [hz, decide_true, if_true]
        refine ⟨_, k - 1, rfl, by omega, by omega, by omega, ?_⟩
        have := trim_zero (a := a.take k) (by omega) (by rw [hg, hz])
        rw [hlt, List.take_take, Nat.min_eq_left (by omega)] at this
        rw [this, h3]
      · right
        simp only [hz, decide_false, Bool.false_eq_true, if_false]
        exact ⟨_, rfl, k, rfl, h2, by rw [← h3, trim_end (digs_take h _) (.inr (by rw [hg]; exact hz))]⟩) a.length n (a.length : Int) ⟨rfl, by omega, by rw [take_all (by omega)]⟩ (by omega)
  subst h2
  simp (disch := omega) only [h1, Option.bind_some, slc_some, Int.toNat_natCast, Int.toNat_zero, List.drop_zero]
  rw [app_some (by decide) (by simp; omega), h4]; rfl
theorem ref_times {n : Nat} {a b : List Int} (ha : digs a) (hb : digs b) (hl : a.length ≤ 400) (hl2 : b.length ≤ 400) (hn : 10000 < n) : m_ref03_times n a b = some (limbs (va a * va b)) := by
  unfold m_ref03_times
  have e0 : ((a.length : Int) + b.length).toNat = a.length + b.length := by omega
  simp (disch := omega) only [mkL_some, Option.bind_some, w64, e0]
  obtain ⟨t, h1, h2, h3, h4⟩ := iter_inv (σ := Int × List Int) (f := fun s => m_ref03_times_L1 n a b s.1 s.2)
    (I := fun k s => ∃ i : Nat, s.1 = i ∧ i + k = a.length ∧ s.2.length = a.length + b.length ∧ digs s.2 ∧ val (s.2.take (i + b.length)) = val (a.take i) * val b)
    (Q := fun t => t.length = a.length + b.length ∧ digs t ∧ val t = val a * val b) (by
      rintro k ⟨j, o⟩ ⟨i, h1, h2, h4, h5, h6⟩
      dsimp only at h1 h4 h5 h6
      subst h1
      simp only [m_ref03_times_L1]
      by_cases hk : k = 0
      · right
        have e0 : i = a.length := by omega
        refine ⟨o, by simp [e0], h4, h5, ?_⟩
        rw [e0, take_all (by omega), take_all (by omega)] at h6
        exact h6
      · left
        have e1 : (i : Int) < a.length := by omega
        obtain ⟨t, q1, q2, q3, q4, q5⟩ := nat_times_row (n := n) (i := i) (x := a.getD i 0) (digs_getD ha i) hb h5 hl2 (by omega) h4 (by omega) hn
        have q1' : iter n (fun s => m_ref03_times_L2 n a b (i : Int) s.1 s.2.1 s.2.2) (0, 0, o) = some t := by
          rw [← q1]
          congr 1; funext s
          unfold m_ref03_times_L2 m_nat_times_L2
          rw [show ix a (i : Int) = some (a.getD i 0) from ix_get 0 (by omega)]; rfl
        have e4 : ((i : Int) + b.length) = ((i + b.length : Nat) : Int) := by omega
        simp (disch := omega) only [e1, decide_true, if_true, ixI, Option.bind_some, Int.toNat_natCast, q1', e4, w64, setI_some]
        refine ⟨_, k - 1, rfl, by omega, i + 1, rfl, by omega, by simp [q3], digs_set q4 q2.1 q2.2, ?_⟩
        have s1 := val_take_succ a i
        rw [show i + 1 + b.length = i + b.length + 1 by omega, val_take_set_succ _ (by omega), s1]
        clear ha hb h4 h2 hk e1 e4 q1 q1' q2 q3 q4 h5 s1
        grind) a.length n (0, List.replicate (a.length + b.length) 0) ⟨0, rfl, by omega, by simp, digs_zeros _, by simp [val, val_zeros]⟩ (by omega)
  simp only [h1, Option.bind_some, ref_trim h3 (by omega) hn, trim, h4]
  congr 2
  rw [← va_nn ha, ← va_nn hb]; rfl
theorem ref_limited {n : Nat} {a : List Int} (h : digs a) (hl : a.length ≤ 1000) (hn : 10000 < n) : m_ref03_limited n a = some (if va a < LIM then (trim a, 0) else ([], 3)) := by
  unfold m_ref03_limited
  simp only [ref_trim h hl hn, Option.bind_some]
  by_cases hx : va a < LIM
  · have := lim_len.2 hx
    simp [trim, hx, show ¬ (128 : Int) < ((limbs (va a)).length : Int) by omega]
  · have := lim_len'.2 hx
    simp [trim, hx, show (128 : Int) < ((limbs (va a)).length : Int) by omega]
theorem ref_Mul {n x y : Nat} (hx : x < LIM) (hy : y < LIM) (hn : 10000 < n) : m_ref03_Mul n (limbs x) (limbs y) = some (if x * y < LIM then (limbs (x * y), 0) else ([], 3)) := by
  have h1 := lim_len.2 hx
  have h2 := lim_len.2 hy
  have h3 := len_mul h1 h2
  simp [m_ref03_Mul, ref_valid_limbs hx hn, ref_valid_limbs hy hn, ref_times (n := n) (digs_limbs x) (digs_limbs y) (by omega) (by omega) hn, va_limbs, ref_limited (n := n) (digs_limbs (x * y)) (by omega) hn, trim_limbs]
theorem val_snoc (a : List Int) (d : Int) : val (a ++ [d]) = val a + 65536 ^ a.length * d := by
  rw [val_append]; simp [val]
theorem ref_sum {n : Nat} {a b : List Int} (ha : digs a) (hb : digs b) (hl : a.length ≤ 400) (hl2 : b.length ≤ 400) (hn : 10000 < n) : m_ref03_sum n a b = some (limbs (va a + va b)) := by
  unfold m_ref03_sum
  obtain ⟨⟨t1, t2⟩, h1, h2, h3, h4, h5⟩ := iter_inv (σ := List Int × Int × Int) (τ := List Int × Int) (f := fun s => m_ref03_sum_L1 n a b s.1 s.2.1 s.2.2)
    (I := fun k s => ∃ i : Nat, s.2.2 = i ∧ i + k = max a.length b.length ∧ (s.2.1 = 0 ∨ s.2.1 = 1) ∧ s.1.length = i ∧ digs s.1 ∧ val s.1 + s.2.1 * 65536 ^ i = val (a.take i) + val (b.take i))
    (Q := fun t => t.1.length ≤ 400 ∧ digs t.1 ∧ (t.2 = 0 ∨ t.2 = 1) ∧ val t.1 + t.2 * 65536 ^ t.1.length = val a + val b) (by
      rintro k ⟨o, c, j⟩ ⟨i, h1, h2, h3, h4, h5, h6⟩
      dsimp only at h1 h2 h3 h4 h5 h6
      subst h1
      simp only [m_ref03_sum_L1]
      by_cases hk : k = 0
      · right
        refine ⟨(o, c), by simp [show ¬ i < a.length by omega, show ¬ i < b.length by omega], by dsimp only; omega, h5, h3, ?_⟩
        rw [take_all (by omega), take_all (by omega)] at h6
        rw [h4]; exact h6
      · left
        have b1 := digs_getD ha i
        have b2 := digs_getD hb i
        have e1 : (decide ((i : Int) < a.length) || decide ((i : Int) < b.length)) = true := by simp; omega
        have s1 := val_take_succ a i
        have s2 := val_take_succ b i
        have t1 : (if decide ((i : Int) < a.length) = true then (ix a (i : Int)).bind fun v6 => some (IntKind.i64.wrap (c + v6)) else some c) = some (c + a.getD i 0) := by
          by_cases h : i < a.length
          · simp (disch := omega) only [show (i : Int) < a.length by omega, decide_true, if_true, ixI, Option.bind_some, w64, Int.toNat_natCast]
          · rw [List.getD_eq_getElem?_getD, List.getElem?_eq_none (by omega)]
            simp [h]
        have t2 : (if decide ((i : Int) < b.length) = true then (ix b (i : Int)).bind fun v8 => some (IntKind.i64.wrap ((c + a.getD i 0) + v8)) else some (c + a.getD i 0)) = some (c + a.getD i 0 + b.getD i 0) := by
          by_cases h : i < b.length
          · simp (disch := omega) only [show (i : Int) < b.length by omega, decide_true, if_true, ixI, Option.bind_some, w64, Int.toNat_natCast]
          · rw [List.getD_eq_getElem?_getD (l := b), List.getElem?_eq_none (l := b) (by omega)]
            simp [h]
        simp only [e1, if_true, t1, Option.bind_some, t2]
        generalize hT : c + a.getD i 0 + b.getD i 0 = T at *
        have hTb : 0 ≤ T ∧ T ≤ 131071 := by omega
        simp (disch := omega) only [remN, quoN, Option.bind_some, w64]
        rw [app_some (by decide) (by simp; omega), Option.bind_some]
        refine ⟨_, k - 1, rfl, by omega, i + 1, rfl, by omega, by dsimp only; omega, by simp [h4], digs_append.2 ⟨h5, digs_one (by omega)⟩, ?_⟩
        dsimp only
        have s3 : T = 65536 * (T / 65536) + T % 65536 := by omega
        rw [val_snoc, h4, Int.pow_succ, s1, s2]
        generalize T / 65536 = Q at *
        generalize T % 65536 = R at *
        clear e1 t1 t2 hTb b1 b2 s1 s2 ha hb h5 h3
        grind) (max a.length b.length) n ([], 0, 0) ⟨0, rfl, by omega, .inl rfl, rfl, digs_nil, by simp [val]⟩ (by omega)
  dsimp only at h2 h3 h4 h5
  simp only [h1, Option.bind_some]
  rw [app_some (by decide) (by simp; omega), Option.bind_some, ref_trim (digs_append.2 ⟨h3, digs_one (by omega)⟩) (by simp; omega) hn, trim, val_snoc]
  have := va_nn ha
  have := va_nn hb
  rw [Option.bind_some]
  congr 2
  rw [Int.mul_comm, h5]; omega
end Go.Proofs.YtagdgndoabomiaaDoor.Ab
