/- Laws on numbers: exponents. Conditions: none. -/
import Derived.Test.YtagdgndoabomiaaDoorQc
namespace Go.Proofs.YtagdgndoabomiaaDoor.Ab
open Go

theorem lim896 : 2 ^ 896 < LIM := by decide +kernel
theorem lim574 : 2 ^ 64 * 2 ^ 510 < LIM := by decide +kernel
theorem pow_lim {x i : Nat} (hx : x < 2 ^ 64) (hi : i ≤ 14) : x ^ i < LIM := by
  have h1 : x ^ i ≤ (2 ^ 64) ^ i := Nat.pow_le_pow_left (Nat.le_of_lt hx) i
  rw [← Nat.pow_mul] at h1
  exact Nat.lt_of_le_of_lt (Nat.le_trans h1 (p2le (show 64 * i ≤ 896 by omega))) lim896
theorem sh_lim {x k : Nat} (hx : x < 2 ^ 64) (hk : k ≤ 510) : x * 2 ^ k < LIM := by
  have h1 := Nat.mul_le_mul (Nat.le_of_lt hx) (p2le hk)
  exact Nat.lt_of_le_of_lt h1 lim574
theorem nat_PowerI {x : Nat} {m : Int} (hx : x < LIM) (h0 : 0 ≤ m) (hm : m ≤ 1000) (h : x ^ m.toNat < LIM) : m_nat_Power FU (limbs x) m = some (limbs (x ^ m.toNat), 0) := by
  obtain ⟨k, rfl⟩ := Int.eq_ofNat_of_zero_le h0
  rw [nat_Power hx (by omega) fu4]
  rw [Int.toNat_natCast] at h ⊢
  rw [if_pos h]
theorem nat_ShiftJ {x : Nat} {m : Int} (hx : x < LIM) (h0 : 0 ≤ m) (hm : m ≤ 2047) (h : x * 2 ^ m.toNat < LIM) : m_nat_Shift FU (limbs x) m = some (limbs (x * 2 ^ m.toNat), 0) := by
  obtain ⟨k, rfl⟩ := Int.eq_ofNat_of_zero_le h0
  rw [nat_Shift hx (by omega) fu4]
  rw [Int.toNat_natCast] at h ⊢
  rw [if_pos h]
theorem plain_NatExponents {a : List Int} {n m : Int} (la : a.length ≤ ML) (hn : 0 ≤ n ∧ n ≤ 255) (hm : 0 ≤ m ∧ m ≤ 255) : m_law03_NatExponents FU a n m = some true := by
  unfold m_law03_NatExponents
  rw [awake03, Option.bind_some]
  have hv := valid_list (k := 4) (L := [a]) (by simp) (by simp [la])
  rw [show ((4 : Nat) : Int) = 4 from rfl] at hv
  simp only [Bool.not_true, Bool.not_false, if_true]
  rw [hv, Option.bind_some]
  cases h : ([a].all fun a => vld a && decide (a.length ≤ 4)) with
  | false => simp
  | true =>
    simp only [List.all_cons, List.all_nil, Bool.and_true, Bool.and_eq_true, decide_eq_true_eq] at h
    obtain ⟨x, xl, rfl⟩ := vld_inv h.1
    have hx : x < 2 ^ 64 := limbs_len.1 h.2
    simp only [Bool.not_true, Bool.or_self, Bool.false_eq_true, if_false]
    rw [w64 (x := n) (by omega) (by omega), w64 (x := m) (by omega) (by omega), remN hn.1 (by decide), Option.bind_some, remN hm.1 (by decide), Option.bind_some, w64 (x := n % 8 + m % 8) (by omega) (by omega)]
    have p1 := nat_PowerI (m := n % 8) xl (by omega) (by omega) (pow_lim hx (by omega))
    have p2 := nat_PowerI (m := m % 8) xl (by omega) (by omega) (pow_lim hx (by omega))
    have p3 := nat_PowerI (m := n % 8 + m % 8) xl (by omega) (by omega) (pow_lim hx (by omega))
    have e : x ^ (n % 8).toNat * x ^ (m % 8).toNat = x ^ (n % 8 + m % 8).toNat := by
      rw [← Nat.pow_add]; congr 1; omega
    have l3 := pow_lim (i := (n % 8 + m % 8).toNat) hx (by omega)
    have p4 := mul_lim (pow_lim (i := (n % 8).toNat) hx (by omega)) (pow_lim (i := (m % 8).toNat) hx (by omega)) (by rw [e]; exact l3)
    rw [e] at p4
    have s1 := same_lim (y := x ^ (n % 8 + m % 8).toNat) l3
    rw [decide_eq_true rfl] at s1
    rw [p1, Option.bind_some, p2, Option.bind_some, p3, Option.bind_some]
    dsimp only
    rw [p4, Option.bind_some]
    simp only [decide_true, Bool.not_true, Bool.or_self, Bool.not_false, if_true, s1, Option.bind_some, Bool.false_eq_true, if_false]
    rw [remN hm.1 (by decide), Option.bind_some, w64 (x := 2 * n) (by omega) (by omega), w64 (x := 2 * n - m % 9) (by omega) (by omega)]
    generalize hb : 2 * n - m % 9 = b
    by_cases h0 : b < 0
    · simp [h0]
    · have two : ([2] : List Int) = limbs 2 := by rw [limbs_pos (by decide)]; simp [limbs_zero]
      have l2 : 2 < LIM := by
        have := b20_lim; have := b20_le; have := b20_pos; omega
      have l4 : 2 ^ b.toNat < LIM := by
        have := sh_lim (x := 1) (k := b.toNat) (by decide) (by omega)
        rwa [Nat.one_mul] at this
      have l5 := sh_lim (k := b.toNat) hx (by omega)
      have p5 := nat_PowerI (m := b) l2 (by omega) (by omega) l4
      have p6 := nat_ShiftJ (m := b) xl (by omega) (by omega) l5
      have p7 := mul_lim xl l4 l5
      have s2 := same_lim (y := x * 2 ^ b.toNat) l5
      rw [decide_eq_true rfl] at s2
      have q1 := nat_Bits l5 fu4
      have q2 := nat_Bits xl fu4
      simp only [h0, decide_false, Bool.false_eq_true, if_false]
      rw [two, p5, Option.bind_some, p6, Option.bind_some]
      dsimp only
      rw [p7, Option.bind_some]
      simp only [decide_true, Bool.and_self, if_true, s2, Option.bind_some, Bool.true_and, q1, q2]
      by_cases hz : x = 0
      · subst hz
        simp [limbs_zero, bits]
      · have lz : ¬ ((limbs x).length : Int) = 0 := fun hc => hz (limbs_len0.1 (by omega))
        have lp : (0 : Int) < (limbs x).length := by omega
        have hbt : bits (x * 2 ^ b.toNat) = bits x + b.toNat := by
          have := bits_mul_pow (d := x) (k := b.toNat) (r := 0) hz (Nat.pow_pos (by decide))
          rw [Nat.zero_add, Nat.mul_comm] at this
          omega
        have hbx : bits x ≤ 64 := bits_le.2 hx
        simp only [lz, lp, decide_false, decide_true, Bool.false_eq_true, if_false, Option.bind_some, Bool.false_and, Bool.not_false, Bool.and_self, if_true, Bool.false_or, Bool.true_and]
        rw [w64 (by omega) (by omega), hbt]
        congr 1
        rw [decide_eq_true_eq]; omega
end Go.Proofs.YtagdgndoabomiaaDoor.Ab
