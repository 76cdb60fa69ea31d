/- What the program's functions on numbers compute: the rest. Conditions: none. -/
import Derived.Test.YtagdgndoabomiaaDoorNc
namespace Go.Proofs.YtagdgndoabomiaaDoor.Ab
open Go

theorem nat_limited {n : Nat} {a : List Int} (h : digs a) (hl : a.length ≤ 1000) (hn : 10000 < n) : m_nat_limited n a = some (if va a < LIM then (trim a, 0) else ([], 3)) := by
  unfold m_nat_limited
  simp only [nat_trimmed h hl hn, Option.bind_some]
  by_cases hx : va a < LIM
  · have := lim_len.2 hx
    simp [trim, hx, show ¬ (128 : Int) < ((limbs (va a)).length : Int) by omega]
  · have := lim_len'.2 hx
    simp [trim, hx, show (128 : Int) < ((limbs (va a)).length : Int) by omega]
theorem trim_limbs {x : Nat} : trim (limbs x) = limbs x := by rw [trim, val_limbs]; rfl
theorem valid_limbs {n x : Nat} (h : x < LIM) (hn : 10000 < n) : m_nat_Valid n (limbs x) = some true := by
  have := lim_len.2 h
  rw [nat_Valid (by simp only [ML]; omega) (by omega), vld_limbs h]
theorem nat_Mul {n x y : Nat} (hx : x < LIM) (hy : y < LIM) (hn : 10000 < n) : m_nat_Mul n (limbs x) (limbs y) = some (if x * y < LIM then (limbs (x * y), 0) else ([], 3)) := by
  have h1 := lim_len.2 hx
  have h2 := lim_len.2 hy
  have h3 := len_mul h1 h2
  simp [m_nat_Mul, valid_limbs hx hn, valid_limbs hy hn, nat_times (n := n) (digs_limbs x) (digs_limbs y) (by omega) (by omega) hn, va_limbs, nat_limited (n := n) (digs_limbs (x * y)) (by omega) hn, trim_limbs]
theorem nat_Divide {n x y : Nat} (hx : x < LIM) (hy : y < LIM) (h0 : 0 < y) (hn : 100000 < n) : m_nat_Divide n (limbs x) (limbs y) = some (limbs (x / y), limbs (x % y), 0) := by
  have h1 := lim_len.2 hx
  have h2 := lim_len.2 hy
  have h3 : limbs y ≠ [] := limbs_ne (by omega)
  simp [m_nat_Divide, valid_limbs hx (show 10000 < n by omega), valid_limbs hy (show 10000 < n by omega), h3, nat_divide (n := n) (a := x) (b := y) h0 (by omega) (by omega) hn]
theorem lim_bits : LIM * LIM = 2 ^ 4096 := by
  decide +kernel
/-- Euclid's steps, with what they leave. -/
theorem gcd_step {a b k : Nat} (hb : 0 < b) (h : (b ≤ a ∧ a * b < 2 ^ k) ∨ k = 4097) (la : a < LIM) (lb : b < LIM) : ∃ k', k' < k ∧ (a % b ≤ b ∧ b * (a % b) < 2 ^ k') := by
  have hm := Nat.mod_lt a hb
  rcases h with ⟨h1, h2⟩ | h
  · cases k with
    | zero =>
      have := Nat.mul_le_mul h1 (show 1 ≤ b from hb)
      have : 1 ≤ a * b := Nat.mul_pos (by omega) hb
      omega
    | succ k =>
      refine ⟨k, by omega, by omega, ?_⟩
      have h3 := Nat.div_add_mod a b
      have h4 : 1 ≤ a / b := (Nat.one_le_div_iff hb).2 h1
      have h5 : b * 1 ≤ b * (a / b) := Nat.mul_le_mul_left b h4
      have h6 : b * (2 * (a % b)) ≤ b * a := Nat.mul_le_mul_left b (by omega)
      rw [Nat.pow_succ] at h2
      have h7 : b * (2 * (a % b)) = 2 * (b * (a % b)) := by grind
      rw [Nat.mul_comm a b] at h2
      omega
  · refine ⟨4096, by omega, by omega, ?_⟩
    rw [← lim_bits]
    exact Nat.mul_lt_mul_of_lt_of_le lb (by omega) (by omega)
theorem nat_Gcd {n x y : Nat} (hx : x < LIM) (hy : y < LIM) (hn : 100000 < n) : m_nat_Gcd n (limbs x) (limbs y) = some (limbs (Nat.gcd x y), 0) := by
  have h1 := lim_len.2 hx
  have h2 := lim_len.2 hy
  obtain ⟨t, q1, q2⟩ := iter_inv (σ := List Int × List Int) (f := fun s => m_nat_Gcd_L1 n s.1 s.2)
    (I := fun k s => ∃ a b : Nat, s = (limbs a, limbs b) ∧ a < LIM ∧ b < LIM ∧ Nat.gcd a b = Nat.gcd x y ∧ ((b ≤ a ∧ a * b < 2 ^ k) ∨ k = 4097))
    (Q := fun t => t = limbs (Nat.gcd x y)) (by
      rintro k s ⟨a, b, rfl, la, lb, hg, hk⟩
      simp only [m_nat_Gcd_L1]
      have l1 := lim_len.2 la
      have l2 := lim_len.2 lb
      by_cases h0 : b = 0
      · subst h0
        right
        rw [Nat.gcd_zero_right] at hg
        exact ⟨_, by simp [limbs_zero]; rfl, by rw [hg]⟩
      · left
        have e1 : (0 : Int) < (limbs b).length := by
          have := limbs_len0 (x := b); omega
        obtain ⟨k', p1, p2, p3⟩ := gcd_step (by omega) hk la lb
        simp only [e1, decide_true, if_true, nat_divide (n := n) (a := a) (b := b) (by omega) (by omega) (by omega) hn, Option.bind_some]
        refine ⟨_, k', rfl, p1, b, a % b, rfl, lb, by omega, ?_, .inl ⟨p2, p3⟩⟩
        rw [← hg, Nat.gcd_comm b, ← Nat.gcd_rec, Nat.gcd_comm]) 4097 n (limbs x, limbs y) ⟨x, y, rfl, hx, hy, rfl, .inr rfl⟩ (by omega)
  simp [m_nat_Gcd, valid_limbs hx (show 10000 < n by omega), valid_limbs hy (show 10000 < n by omega), clone_int (n := n) (show (limbs x).length ≤ 1000 by omega), clone_int (n := n) (show (limbs y).length ≤ 1000 by omega), q1, q2]
theorem limbs_snoc {l : List Int} {m : Nat} (h : m ≠ 0) : l ++ limbs m = (l ++ [((m % 65536 : Nat) : Int)]) ++ limbs (m / 65536) := by
  rw [limbs_pos h]; simp
theorem nat_small {n x : Nat} (h : x ≤ 9223372036854775807) (hn : 100 < n) : m_nat_small n (x : Int) = some (limbs x) := by
  unfold m_nat_small
  obtain ⟨t, q1, q2⟩ := iter_inv (σ := Int × List Int) (f := fun s => m_nat_small_L1 n s.1 s.2)
    (I := fun k s => ∃ m : Nat, s.1 = m ∧ m < 65536 ^ k ∧ m ≤ 9223372036854775807 ∧ k ≤ 4 ∧ s.2.length + k ≤ 4 ∧ s.2 ++ limbs m = limbs x)
    (Q := fun t => t = limbs x) (by
      rintro k ⟨j, l⟩ ⟨m, h1, h2, h3, h4, h5, h6⟩
      dsimp only at h1 h5 h6 ⊢
      subst h1
      simp only [m_nat_small_L1]
      by_cases h0 : m = 0
      · subst h0
        right
        refine ⟨l, by simp, ?_⟩
        rw [limbs_zero, List.append_nil] at h6; exact h6
      · left
        cases k with
        | zero => simp at h2; omega
        | succ k =>
          have e1 : (0 : Int) < m := by omega
          simp (disch := omega) only [e1, decide_true, if_true, remN, quoN, Option.bind_some]
          rw [app_some (by decide) (by simp; omega), Option.bind_some]
          refine ⟨_, k, rfl, by omega, m / 65536, by simp, ?_, by omega, by omega, by simp; omega, ?_⟩
          · rw [Nat.pow_succ] at h2
            exact Nat.div_lt_of_lt_mul (by rw [Nat.mul_comm]; exact h2)
          · rw [limbs_snoc h0] at h6
            simpa using h6) 4 n ((x : Int), []) ⟨x, rfl, by omega, h, by omega, by simp, rfl⟩ (by omega)
  rw [q1, q2]; rfl
theorem nat_Of {n x : Nat} (h : x ≤ 9223372036854775807) (hn : 100 < n) : m_nat_Of n (x : Int) = some (limbs x, 0) := by
  simp [m_nat_Of, nat_small h hn]
/-- How many binary digits a number has. -/
def bits (x : Nat) : Nat := if x = 0 then 0 else Nat.log2 x + 1
theorem bits_le {x k : Nat} : bits x ≤ k ↔ x < 2 ^ k := by
  unfold bits
  by_cases h : x = 0
  · subst h; simp [Nat.pow_pos]
  · rw [if_neg h]
    exact (Nat.log2_lt h)
theorem bits_mul_pow {d k : Nat} {r : Nat} (hd : d ≠ 0) (hr : r < 2 ^ k) : bits (r + 2 ^ k * d) = k + bits d := by
  apply Nat.le_antisymm
  · rw [bits_le, Nat.pow_add]
    have h1 : d < 2 ^ bits d := bits_le.1 (Nat.le_refl _)
    have h2 := Nat.mul_le_mul_left (2 ^ k) (show d + 1 ≤ 2 ^ bits d from h1)
    rw [Nat.mul_add] at h2; omega
  · have h0 : 0 < bits d := by
      simp [bits, hd]
    refine Nat.le_of_not_lt fun hc => ?_
    have h1 : ¬ bits d ≤ bits d - 1 := by omega
    rw [bits_le] at h1
    have h2 : bits (r + 2 ^ k * d) ≤ k + (bits d - 1) := by omega
    rw [bits_le, Nat.pow_add] at h2
    have h3 := Nat.mul_le_mul_left (2 ^ k) (show 2 ^ (bits d - 1) ≤ d by omega)
    omega
theorem bits_last {x : Nat} (h : x ≠ 0) : bits x = 16 * ((limbs x).length - 1) + bits ((limbs x).getD ((limbs x).length - 1) 0).toNat := by
  have h1 := val_take_succ (limbs x) ((limbs x).length - 1)
  have h0 : (limbs x).length ≠ 0 := fun hc => h (limbs_len0.1 hc)
  rw [show (limbs x).length - 1 + 1 = (limbs x).length by omega, take_all (Nat.le_refl _), val_limbs] at h1
  have h2 := val_bounds (digs_take (digs_limbs x) ((limbs x).length - 1))
  rw [List.length_take, Nat.min_eq_left (by omega)] at h2
  have h3 := digs_getD (digs_limbs x) ((limbs x).length - 1)
  have h4 := limbs_last h
  generalize (limbs x).getD ((limbs x).length - 1) 0 = d at *
  generalize val ((limbs x).take ((limbs x).length - 1)) = r at *
  generalize (limbs x).length - 1 = k at *
  have e : x = r.toNat + 2 ^ (16 * k) * d.toNat := by
    have e1 : (2 : Int) ^ (16 * k) = 65536 ^ k := by rw [Int.pow_mul]; rfl
    have e2 : (x : Int) = ((r.toNat + 2 ^ (16 * k) * d.toNat : Nat) : Int) := by
      rw [Int.natCast_add, Int.natCast_mul, Int.natCast_pow, Int.toNat_of_nonneg h2.1, Int.toNat_of_nonneg h3.1]
      show (x : Int) = r + 2 ^ (16 * k) * d
      rw [e1]; exact h1
    exact Int.ofNat_inj.1 e2
  rw [e]
  refine bits_mul_pow (by omega) ?_
  have e1 : (2 : Nat) ^ (16 * k) = 65536 ^ k := by rw [Nat.pow_mul]
  have e3 : ((65536 ^ k : Nat) : Int) = (65536 : Int) ^ k := by simp
  rw [e1]; omega
theorem bits_shr {x k : Nat} (h : 2 ^ k ≤ x) : bits x = bits (x / 2 ^ k) + k := by
  have h1 := Nat.div_add_mod x (2 ^ k)
  have hp : 0 < 2 ^ k := Nat.pow_pos (by decide)
  have h2 := bits_mul_pow (d := x / 2 ^ k) (k := k) (r := x % 2 ^ k) (by
    have := Nat.div_pos h hp; omega) (Nat.mod_lt _ hp)
  rw [show x % 2 ^ k + 2 ^ k * (x / 2 ^ k) = x by omega] at h2
  omega
def len8 : List UInt8 := [0, 1, 2, 2, 3, 3, 3, 3, 4, 4, 4, 4, 4, 4, 4, 4, 5, 5, 5, 5, 5, 5, 5, 5, 5, 5, 5, 5, 5, 5, 5, 5, 6, 6, 6, 6, 6, 6, 6, 6, 6, 6, 6, 6, 6, 6, 6, 6, 6, 6, 6, 6, 6, 6, 6, 6, 6, 6, 6, 6, 6, 6, 6, 6, 7, 7, 7, 7, 7, 7, 7, 7, 7, 7, 7, 7, 7, 7, 7, 7, 7, 7, 7, 7, 7, 7, 7, 7, 7, 7, 7, 7, 7, 7, 7, 7, 7, 7, 7, 7, 7, 7, 7, 7, 7, 7, 7, 7, 7, 7, 7, 7, 7, 7, 7, 7, 7, 7, 7, 7, 7, 7, 7, 7, 7, 7, 7, 7, 8, 8, 8, 8, 8, 8, 8, 8, 8, 8, 8, 8, 8, 8, 8, 8, 8, 8, 8, 8, 8, 8, 8, 8, 8, 8, 8, 8, 8, 8, 8, 8, 8, 8, 8, 8, 8, 8, 8, 8, 8, 8, 8, 8, 8, 8, 8, 8, 8, 8, 8, 8, 8, 8, 8, 8, 8, 8, 8, 8, 8, 8, 8, 8, 8, 8, 8, 8, 8, 8, 8, 8, 8, 8, 8, 8, 8, 8, 8, 8, 8, 8, 8, 8, 8, 8, 8, 8, 8, 8, 8, 8, 8, 8, 8, 8, 8, 8, 8, 8, 8, 8, 8, 8, 8, 8, 8, 8, 8, 8, 8, 8, 8, 8, 8, 8, 8, 8, 8, 8, 8, 8, 8, 8, 8, 8, 8, 8]
theorem len8_bits : ∀ i : Nat, i < 256 → ixS len8 (i : Int) = some ((bits i : Nat) : Int) := by decide +kernel
theorem wrap_u8 {x : Int} (h1 : 0 ≤ x) (h2 : x < 256) : IntKind.u8.wrap x = x := by simp [IntKind.wrap, IntKind.signed, IntKind.bits]; omega
theorem wrap_u64 {x : Int} (h1 : 0 ≤ x) (h2 : x < 18446744073709551616) : IntKind.u64.wrap x = x := by simp [IntKind.wrap, IntKind.signed, IntKind.bits]; omega
set_option maxRecDepth 100000 in
theorem len_small {n x : Nat} (h : x < 65536) : m_math_bits_Len n (x : Int) = some ((bits x : Nat) : Int) := by
  unfold m_math_bits_Len m_math_bits_Len64
  have e1 : ¬ (4294967296 : Int) ≤ x := by omega
  have e2 : ¬ (65536 : Int) ≤ x := by omega
  simp only [e1, e2, decide_false, Bool.false_eq_true, if_false, Option.bind_some]
  by_cases h3 : (256 : Int) ≤ x
  · have e4 : shrM .u64 (x : Int) 8 = some (((x / 256 : Nat)) : Int) := by
      unfold shrM
      rw [if_neg (by decide)]
      show some ((x : Int).fdiv 256) = _
      rw [Int.fdiv_eq_ediv_of_nonneg _ (by decide)]; rfl
    have e5 := bits_shr (x := x) (k := 8) (by omega)
    rw [show (2 : Nat) ^ 8 = 256 by decide] at e5
    have e6 := len8_bits (x / 256) (by omega)
    have e7 : bits (x / 256) ≤ 8 := bits_le.2 (by omega)
    have e8 := wrap_u8 (x := ((x / 256 : Nat) : Int)) (by omega) (by omega)
    simp only [h3, decide_true, if_true, e4, Option.bind_some, e8]
    simp only [len8] at e6
    rw [e6]
    simp (disch := omega) only [Option.bind_some, w64]
    congr 1; omega
  · have e6 := len8_bits x (by omega)
    have e7 : bits x ≤ 8 := bits_le.2 (by omega)
    have e8 := wrap_u8 (x := (x : Int)) (by omega) (by omega)
    simp only [h3, decide_false, Bool.false_eq_true, if_false, Option.bind_some, e8]
    simp only [len8] at e6
    rw [e6]
    simp (disch := omega) only [Option.bind_some, w64]
    congr 1; omega
theorem nat_Bits {n x : Nat} (h : x < LIM) (hn : 10000 < n) : m_nat_Bits n (limbs x) = some ((bits x : Nat) : Int) := by
  unfold m_nat_Bits
  rw [valid_limbs h hn, Option.bind_some]
  have l1 := lim_len.2 h
  by_cases h0 : x = 0
  · subst h0; simp [limbs_zero, bits]
  · have l0 : (limbs x).length ≠ 0 := fun hc => h0 (limbs_len0.1 hc)
    have e0 : ¬ ((limbs x).length : Int) = 0 := by omega
    have h3 := digs_getD (digs_limbs x) ((limbs x).length - 1)
    have e1 : (((limbs x).length : Int) - 1).toNat = (limbs x).length - 1 := by omega
    simp (disch := omega) only [Bool.not_true, e0, decide_false, Bool.or_self, Bool.false_eq_true, if_false, w64, ixI, Option.bind_some, e1]
    rw [wrap_u64 h3.1 (by omega)]
    have h4 := bits_last h0
    obtain ⟨d, hd⟩ : ∃ d : Nat, (limbs x).getD ((limbs x).length - 1) 0 = d := ⟨_, (Int.toNat_of_nonneg h3.1).symm⟩
    rw [hd] at h3 h4 ⊢
    rw [len_small (by omega)]
    have h5 : bits d ≤ 16 := bits_le.2 (by omega)
    rw [Int.toNat_natCast] at h4
    simp (disch := omega) only [Option.bind_some, w64]
    congr 1; omega
/-- Powers up to the limit. -/
theorem pow_le_pow {x j m : Nat} (h : j ≤ m) (hx : x ≠ 0) : x ^ j ≤ x ^ m := Nat.pow_le_pow_right (by omega) h
theorem nat_Power {n x m : Nat} (hx : x < LIM) (hm : m ≤ 1000) (hn : 10000 < n) : m_nat_Power n (limbs x) (m : Int) = some (if x ^ m < LIM then (limbs (x ^ m), 0) else ([], 3)) := by
  unfold m_nat_Power
  rw [valid_limbs hx hn, Option.bind_some]
  have l1 := lim_len.2 hx
  have one : ([1] : List Int) = limbs (x ^ 0) := by rw [Nat.pow_zero, limbs_pos (by decide)]; simp [limbs_zero]
  have lim1 : 1 < LIM := by rw [← lim_len]; exact Nat.le_trans (len_one (by decide)) (by decide)
  have e1 : ¬ (m : Int) < 0 := by omega
  have e2 : ¬ (1000 : Int) < m := by omega
  simp only [Bool.not_true, Bool.false_eq_true, if_false, e1, e2, decide_false, Bool.or_self]
  obtain ⟨t, q1, q2⟩ := iter_inv (σ := List Int × Int) (f := fun s => m_nat_Power_L1 n (limbs x) (m : Int) s.1 s.2)
    (I := fun k s => ∃ j : Nat, s = (limbs (x ^ j), (j : Int)) ∧ j + k = m ∧ x ^ j < LIM)
    (Q := fun t => Sum.elim id (fun l => (l, 0)) t = if x ^ m < LIM then (limbs (x ^ m), 0) else (([] : List Int), (3 : Int))) (by
      rintro k s ⟨j, rfl, h1, h2⟩
      simp only [m_nat_Power_L1]
      by_cases hk : k = 0
      · right
        have e : j = m := by omega
        subst e
        exact ⟨_, by simp; rfl, by simp [h2]⟩
      · have e3 : (j : Int) < m := by omega
        have l2 := lim_len.2 h2
        have ps : x ^ j * x = x ^ (j + 1) := (Nat.pow_succ ..).symm
        simp only [e3, decide_true, if_true, nat_times (n := n) (digs_limbs (x ^ j)) (digs_limbs x) (by omega) (by omega) hn, va_limbs, Option.bind_some, ps]
        by_cases hL : x ^ (j + 1) < LIM
        · left
          have := lim_len.2 hL
          rw [decide_eq_false (by omega)]
          exact ⟨_, k - 1, rfl, by omega, j + 1, by rw [wadd1 (show j < 1000 by omega) (by decide)], by omega, hL⟩
        · right
          have := lim_len'.2 hL
          rw [decide_eq_true (by omega)]
          refine ⟨_, rfl, ?_⟩
          have h0 : x ≠ 0 := by
            intro h0; subst h0
            rw [Nat.zero_pow (by omega)] at hL; omega
          have := pow_le_pow (show j + 1 ≤ m by omega) h0
          rw [if_neg (by omega)]; rfl) m n ([1], 0) ⟨0, by rw [one]; rfl, by omega, by rw [Nat.pow_zero]; exact lim1⟩ (by omega)
  rw [q1, ← q2]
  cases t <;> rfl
theorem nat_Shift {n x m : Nat} (hx : x < LIM) (hm : m ≤ 2047) (hn : 10000 < n) : m_nat_Shift n (limbs x) (m : Int) = some (if x * 2 ^ m < LIM then (limbs (x * 2 ^ m), 0) else ([], 3)) := by
  unfold m_nat_Shift
  rw [valid_limbs hx hn, Option.bind_some]
  have l1 := lim_len.2 hx
  have e1 : ¬ (m : Int) < 0 := by omega
  have e2 : ¬ (2047 : Int) < m := by omega
  simp only [Bool.not_true, Bool.false_eq_true, if_false, e1, e2, decide_false, Bool.or_self]
  by_cases h0 : x = 0
  · subst h0
    have : 0 < LIM := by omega
    simp [limbs_zero, this]
  · have l0 : ¬ ((limbs x).length : Int) = 0 := fun hc => h0 (limbs_len0.1 (by omega))
    have e3 : ((m : Int) / 16) = ((m / 16 : Nat) : Int) := by omega
    have e4 : ((m : Int) % 16) = ((m % 16 : Nat) : Int) := by omega
    have e5 : shlM .i64 1 ((m % 16 : Nat) : Int) = some ((2 ^ (m % 16) : Nat) : Int) := by
      have : ∀ k : Nat, k < 16 → shlM .i64 1 (k : Int) = some ((2 ^ k : Nat) : Int) := by decide +kernel
      exact this _ (Nat.mod_lt _ (by decide))
    have e6 : 2 ^ (m % 16) < 65536 := by
      have : ∀ k : Nat, k < 16 → 2 ^ k < 65536 := by decide
      exact this _ (Nat.mod_lt _ (by decide))
    have e8 : (0 : Int) ≤ ((2 ^ (m % 16) : Nat) : Int) := Int.natCast_nonneg _
    have t1 := nat_times (n := n) (a := limbs x) (b := [((2 ^ (m % 16) : Nat) : Int)]) (digs_limbs x) (digs_one (by omega)) (by omega) (by simp) hn
    rw [va_limbs, va_one, Int.toNat_natCast] at t1
    have l3 := len_mul (y := 2 ^ (m % 16)) l1 (len_one e6)
    have hv : va (List.replicate (m / 16) 0 ++ limbs (x * 2 ^ (m % 16))) = x * 2 ^ m := by
      rw [va, val_append, val_zeros, val_limbs, List.length_replicate, Int.zero_add]
      have e7 : (65536 : Int) ^ (m / 16) = ((65536 ^ (m / 16) : Nat) : Int) := by simp
      rw [e7, ← Int.natCast_mul, Int.toNat_natCast, show (65536 : Nat) = 2 ^ 16 by decide, ← Nat.pow_mul, Nat.mul_left_comm, ← Nat.pow_add, Nat.div_add_mod]
    have hd : digs (List.replicate (m / 16) 0 ++ limbs (x * 2 ^ (m % 16))) := digs_append.2 ⟨digs_zeros _, digs_limbs _⟩
    simp (disch := omega) only [l0, decide_false, Bool.false_eq_true, if_false, quoN, remN, e3, e4, mkL_some, Option.bind_some, e5, t1, Int.toNat_natCast]
    rw [app_some (by decide) (by simp; omega), Option.bind_some, nat_limited hd (by simp; omega) hn, Option.bind_some, trim, hv]
    have : (val (List.replicate (m / 16) 0 ++ limbs (x * 2 ^ (m % 16)))).toNat = x * 2 ^ m := hv
    rw [this]
end Go.Proofs.YtagdgndoabomiaaDoor.Ab
