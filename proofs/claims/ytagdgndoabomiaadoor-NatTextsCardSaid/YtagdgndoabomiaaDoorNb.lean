/- What the program's functions on numbers compute: differences and products. Conditions: none. -/
import Derived.Test.YtagdgndoabomiaaDoorNa
namespace Go.Proofs.YtagdgndoabomiaaDoor.Ab
open Go

theorem nat_minus {n : Nat} {a b : List Int} (ha : digs a) (hb : digs b) (hl : a.length ≤ 1000) (hv : val b ≤ val a) (hn : 10000 < n) : m_nat_minus n a b = some (limbs (va a - va b)) := by
  unfold m_nat_minus
  simp (disch := omega) only [mkL_some, Option.bind_some, Int.toNat_natCast]
  obtain ⟨t, h1, h2, h3, h4⟩ := iter_inv (f := fun s => m_nat_minus_L1 n a b s.1 s.2.1 s.2.2)
    (I := fun k s => ∃ i : Nat, s.2.1 = i ∧ i + k = a.length ∧ (s.1 = 0 ∨ s.1 = 1) ∧ s.2.2.length = a.length ∧ digs s.2.2 ∧ val (s.2.2.take i) = val (a.take i) - val (b.take i) + s.1 * 65536 ^ i)
    (Q := fun t => t.length = a.length ∧ digs t ∧ val t = val a - val b) (fun k s ⟨i, h1, h2, h3, h4, h5, h6⟩ => by
      obtain ⟨c, j, o⟩ := s
      simp only at h1 h3 h4 h5 h6
      subst h1
      simp only [m_nat_minus_L1]
      by_cases hk : k = 0
      · right
        have e0 : i = a.length := by omega
        refine ⟨o, by simp [e0], h4, h5, ?_⟩
        have hb1 := val_bounds ha
        rw [e0, take_all (Nat.le_refl _), take_all (by omega), val_take_big hb (by omega)] at h6
        have hb2 := val_bounds h5
        rw [h4] at hb2
        rcases h3 with h3 | h3
        · rw [h3] at h6; omega
        · rw [h3] at h6; omega
      · left
        have b1 := digs_getD ha i
        have b2 := digs_getD hb i
        have e1 : (i : Int) < a.length := by omega
        have s1 := val_take_succ a i
        have s2 := val_take_succ b i
        simp (disch := omega) only [e1, decide_true, if_true, ixI, nat_digit, Option.bind_some, Int.toNat_natCast, w64]
        by_cases hd : a.getD i 0 - b.getD i 0 - c < 0
        · simp (disch := omega) only [hd, decide_true, if_true, Option.bind_some, setI_some, w64, Int.toNat_natCast]
          refine ⟨_, k - 1, rfl, by omega, i + 1, rfl, by omega, .inr rfl, by simp [h4], digs_set h5 (by omega) (by omega), ?_⟩
          rw [val_take_set_succ _ (by omega), Int.pow_succ]
          grind
        · simp (disch := omega) only [hd, decide_false, Bool.false_eq_true, if_false, Option.bind_some, setI_some, w64, Int.toNat_natCast]
          refine ⟨_, k - 1, rfl, by omega, i + 1, rfl, by omega, .inl rfl, by simp [h4], digs_set h5 (by omega) (by omega), ?_⟩
          rw [val_take_set_succ _ (by omega), Int.pow_succ]
          grind) a.length n (0, 0, List.replicate a.length 0) ⟨0, rfl, by omega, .inl rfl, by simp, digs_zeros _, by simp [val]⟩ (by omega)
  simp only [h1, Option.bind_some, nat_trimmed_f2 h3 (by omega) hn, trim, h4]
  congr 2
  have := val_bounds ha
  have := val_bounds hb
  simp only [va]; omega
/-- One digit's row of a product, where the digits are read from lists of numbers. -/
theorem times_step {u b : List Int} {x cr V : Int} {i c lu : Nat} (hx : 0 ≤ x ∧ x < 65536) (hb : digs b) (hu : digs u) (hc : 0 ≤ cr ∧ cr < 65536) (hlen : u.length = lu) (h : i + b.length ≤ lu) (hcb : c < b.length)
    (h6 : val (u.take (i + b.length)) + cr * 65536 ^ (i + c) = V + x * val (b.take c) * 65536 ^ i) :
    let T := cr + (u.getD (i + c) 0 + x * b.getD c 0)
    (0 ≤ T ∧ T ≤ 4294967295) ∧ (0 ≤ x * b.getD c 0 ∧ x * b.getD c 0 ≤ 4294836225) ∧ (0 ≤ u.getD (i + c) 0 + x * b.getD c 0 ∧ u.getD (i + c) 0 + x * b.getD c 0 ≤ 4294901760) ∧
    (0 ≤ T / 65536 ∧ T / 65536 < 65536) ∧ (u.set (i + c) (T % 65536)).length = lu ∧ digs (u.set (i + c) (T % 65536)) ∧
    val ((u.set (i + c) (T % 65536)).take (i + b.length)) + T / 65536 * 65536 ^ (i + (c + 1)) = V + x * val (b.take (c + 1)) * 65536 ^ i := by
  intro T
  have b2 := digs_getD hb c
  have b3 := digs_getD hu (i + c)
  have b4 := mul_small hx b2
  have hT : 0 ≤ T ∧ T ≤ 4294967295 := ⟨by omega, by omega⟩
  refine ⟨hT, b4, ⟨by omega, by omega⟩, ⟨by omega, by omega⟩, by simp [hlen], digs_set hu (by omega) (by omega), ?_⟩
  have s2 := val_take_succ b c
  rw [val_take_set _ (by omega) (by omega), ← Nat.add_assoc, Int.pow_succ, s2]
  have e4 := Int.mul_ediv_add_emod T 65536
  have e5 : (65536 : Int) ^ (i + c) = 65536 ^ i * 65536 ^ c := Int.pow_add ..
  have e6 : T = cr + (u.getD (i + c) 0 + x * b.getD c 0) := rfl
  generalize T / 65536 = Q at *
  generalize T % 65536 = R at *
  rw [e5] at h6 ⊢
  clear hT b4 b3 b2 hcb h hlen hc hu hb hx s2 e5
  generalize T = T at *
  grind
theorem nat_times_row {n : Nat} {b o : List Int} {x : Int} {i lo : Nat} (hx : 0 ≤ x ∧ x < 65536) (hb : digs b) (ho : digs o) (hl2 : b.length ≤ 400) (hi : i ≤ 400) (hlo : o.length = lo) (h : i + b.length ≤ lo) (hn : 10000 < n) :
    ∃ t, iter n (fun s => m_nat_times_L2 n b (i : Int) x s.1 s.2.1 s.2.2) (0, 0, o) = some t ∧ (0 ≤ t.1 ∧ t.1 < 65536) ∧ t.2.length = lo ∧ digs t.2 ∧ val (t.2.take (i + b.length)) + t.1 * 65536 ^ (i + b.length) = val (o.take (i + b.length)) + x * val b * 65536 ^ i := by
  refine iter_inv (σ := Int × Int × List Int) (Q := fun t : Int × List Int => (0 ≤ t.1 ∧ t.1 < 65536) ∧ t.2.length = lo ∧ digs t.2 ∧ val (t.2.take (i + b.length)) + t.1 * 65536 ^ (i + b.length) = val (o.take (i + b.length)) + x * val b * 65536 ^ i)
    (I := fun m s => ∃ c : Nat, s.2.1 = c ∧ c + m = b.length ∧ (0 ≤ s.1 ∧ s.1 < 65536) ∧ s.2.2.length = lo ∧ digs s.2.2 ∧ val (s.2.2.take (i + b.length)) + s.1 * 65536 ^ (i + c) = val (o.take (i + b.length)) + x * val (b.take c) * 65536 ^ i) (fun m s ⟨c, g1, g2, g3, g4, g5, g6⟩ => ?_)
    b.length n (0, 0, o) ⟨0, rfl, by omega, ⟨by omega, by omega⟩, hlo, ho, by simp [val]⟩ (by omega)
  obtain ⟨cr, j, u⟩ := s
  dsimp only at g1 g3 g4 g5 g6
  subst g1
  simp only [m_nat_times_L2]
  by_cases hm : m = 0
  · right
    have e0 : c = b.length := by omega
    refine ⟨(cr, u), by simp [e0], g3, g4, g5, ?_⟩
    rw [e0, take_all (Nat.le_refl b.length)] at g6
    exact g6
  · left
    obtain ⟨r1, r2, r3, r4, r5, r6, r7⟩ := times_step hx hb g5 g3 g4 h (by omega) g6
    have e2 : (c : Int) < b.length := by omega
    have e3 : ((i : Int) + c) = ((i + c : Nat) : Int) := by omega
    clear g6 g5 ho hb hx
    have hcl : (i + c) < u.length := by omega
    simp (disch := omega) only [e2, decide_true, if_true, w64, e3, ixI, Option.bind_some, Int.toNat_natCast, remN, quoN, setI_some]
    exact ⟨_, m - 1, rfl, by omega, c + 1, by simp, by omega, r4, r5, r6, r7⟩
theorem nat_times {n : Nat} {a b : List Int} (ha : digs a) (hb : digs b) (hl : a.length ≤ 400) (hl2 : b.length ≤ 400) (hn : 10000 < n) : m_nat_times n a b = some (limbs (va a * va b)) := by
  unfold m_nat_times
  have e0 : ((a.length : Int) + b.length).toNat = a.length + b.length := by omega
  simp (disch := omega) only [mkL_some, Option.bind_some, w64, e0]
  obtain ⟨t, h1, h2, h3, h4⟩ := iter_inv (σ := Int × List Int) (f := fun s => m_nat_times_L1 n a b s.1 s.2)
    (I := fun k s => ∃ i : Nat, s.1 = i ∧ i + k = a.length ∧ s.2.length = a.length + b.length ∧ digs s.2 ∧ val (s.2.take (i + b.length)) = val (a.take i) * val b)
    (Q := fun t => t.length = a.length + b.length ∧ digs t ∧ val t = val a * val b) (by
      rintro k ⟨j, o⟩ ⟨i, h1, h2, h4, h5, h6⟩
      dsimp only at h1 h4 h5 h6
      subst h1
      simp only [m_nat_times_L1]
      by_cases hk : k = 0
      · right
        have e0 : i = a.length := by omega
        refine ⟨o, by simp [e0], h4, h5, ?_⟩
        rw [e0, take_all (by omega), take_all (by omega)] at h6
        exact h6
      · left
        have e1 : (i : Int) < a.length := by omega
        obtain ⟨t, q1, q2, q3, q4, q5⟩ := nat_times_row (n := n) (i := i) (x := a.getD i 0) (digs_getD ha i) hb h5 hl2 (by omega) h4 (by omega) hn
        have e4 : ((i : Int) + b.length) = ((i + b.length : Nat) : Int) := by omega
        simp (disch := omega) only [e1, decide_true, if_true, ixI, Option.bind_some, Int.toNat_natCast, q1, e4, w64, setI_some]
        refine ⟨_, k - 1, rfl, by omega, i + 1, rfl, by omega, by simp [q3], digs_set q4 q2.1 q2.2, ?_⟩
        have s1 := val_take_succ a i
        rw [show i + 1 + b.length = i + b.length + 1 by omega, val_take_set_succ _ (by omega), s1]
        clear ha hb h4 h2 hk e1 e4 q1 q2 q3 q4 h5 s1
        grind) a.length n (0, List.replicate (a.length + b.length) 0) ⟨0, rfl, by omega, by simp, digs_zeros _, by simp [val, val_zeros]⟩ (by omega)
  simp only [h1, Option.bind_some, nat_trimmed_f2 h3 (by omega) hn, trim, h4]
  congr 2
  rw [← va_nn ha, ← va_nn hb]; rfl
end Go.Proofs.YtagdgndoabomiaaDoor.Ab
