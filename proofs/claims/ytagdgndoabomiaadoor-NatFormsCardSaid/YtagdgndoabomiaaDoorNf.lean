/- Plain laws, joined. Conditions: none. -/
import Derived.Test.YtagdgndoabomiaaDoorMi
import Derived.Test.YtagdgndoabomiaaDoorNt
namespace Go.Proofs.YtagdgndoabomiaaDoor.Ab
section
/- What the program's functions on numbers compute. Conditions: none. -/
open Go

theorem nat_Valid {n : Nat} {a : List Int} (hl : a.length ≤ ML) (hn : a.length < n) : m_nat_Valid n a = some (vld a) := by
  have h2 : m_slices_ContainsFunc_nat_Nat_int n a (fun y1 => m_nat_Valid_1 n y1) = some (a.any fun d => decide (d < 0) || decide (65536 ≤ d)) :=
    contains_loop n a (fun y1 => m_nat_Valid_1 n y1) (fun d => decide (d < 0) || decide (65536 ≤ d)) (fun x _ => rfl) hl hn
  unfold m_nat_Valid
  by_cases h : a.length ≤ 128
  · have h1 : ¬ (128 : Int) < a.length := by omega
    simp only [h1, decide_false, Bool.not_false, if_true, Bool.false_or, h2, Option.bind_some]
    have h3 : (a.any fun d => decide (d < 0) || decide (65536 ≤ d)) = !(a.all fun d => decide (0 ≤ d) && decide (d < 65536)) := by
      rw [List.not_all_eq_any_not]
      congr 1; funext d
      rw [Bool.eq_iff_iff]; simp
    rw [h3]
    cases h4 : a.all fun d => decide (0 ≤ d) && decide (d < 65536) with
    | false => simp [vld, h4]
    | true =>
      simp only [vld, h, h4, Bool.not_true, Bool.false_eq_true, if_false, decide_true, Bool.true_and]
      by_cases h5 : a.length = 0
      · simp [h5]
      · have h6 : ¬ (a.length : Int) = 0 := by omega
        simp only [h6, h5, decide_false, Bool.not_false, if_true, Bool.false_or]
        rw [w64 (by omega) (by omega), ixI (by omega) (by omega)]
        rw [show ((a.length : Int) - 1).toNat = a.length - 1 by omega]
        rfl
  · have h1 : (128 : Int) < a.length := by omega
    simp [h1, vld, h]
theorem cmp_int {n : Nat} {a b : Int} : m_cmp_Compare_int n a b = some (if a < b then -1 else if a = b then 0 else 1) := by
  unfold m_cmp_Compare_int m_cmp_isNaN_int
  by_cases h1 : a < b
  · simp [h1]
  · by_cases h2 : a = b
    · simp [h2]
    · simp [h1, h2, show b < a by omega]
theorem nat_compare {n x y : Nat} (hx : (limbs x).length ≤ 1000) (hy : (limbs y).length ≤ 1000) (hn : 10000 < n) : m_nat_compare n (limbs x) (limbs y) = some (sgn x y) := by
  unfold m_nat_compare
  by_cases hl : (limbs x).length = (limbs y).length
  · have e : ((limbs x).length : Int) = (limbs y).length := by omega
    simp only [e, decide_true, Bool.not_true, Bool.false_eq_true, if_false]
    generalize ha : limbs x = a at *
    generalize hb : limbs y = b at *
    have da : digs a := ha ▸ digs_limbs x
    have db : digs b := hb ▸ digs_limbs y
    have vx : val a = x := by rw [← ha, val_limbs]
    have vy : val b = y := by rw [← hb, val_limbs]
    obtain ⟨t, h1, h2⟩ := iter_inv (f := fun s => m_nat_compare_L1 n a b s) (I := fun k s => (k : Int) = a.length - s ∧ 0 ≤ s ∧ ∀ i, k ≤ i → i < a.length → a.getD i 0 = b.getD i 0)
      (Q := fun t => Sum.elim id (fun _ => 0) t = sgn x y) (fun k s ⟨h1, h2, h3⟩ => by
        simp only [m_nat_compare_L1]
        by_cases hk : k = 0
        · subst hk
          right
          refine ⟨.inr (), by simp [show ¬ s < (a.length : Int) by omega], ?_⟩
          have := drop_ext hl h3
          simp only [List.drop_zero] at this
          subst this
          have : x = y := by omega
          subst this
          simp [sgn]
        · have e1 : s < (a.length : Int) := by omega
          have e2 : ((a.length : Int) - 1 - s) = ((k - 1 : Nat) : Int) := by omega
          simp (disch := omega) only [e1, decide_true, if_true, w64, e2, ixI, Option.bind_some, Int.toNat_natCast]
          by_cases hd : a.getD (k - 1) 0 = b.getD (k - 1) 0
          · left
            refine ⟨s + 1, k - 1, by simp only [hd, decide_true, Bool.not_true, Bool.false_eq_true, if_false], by omega, by omega, by omega, fun i q1 q2 => ?_⟩
            by_cases hi : i = k - 1
            · subst hi; exact hd
            · exact h3 i (by omega) q2
          · right
            have hdr : a.drop (k - 1 + 1) = b.drop (k - 1 + 1) := drop_ext hl (fun i q1 q2 => h3 i (by omega) q2)
            rw [cmp_int]
            refine ⟨.inl (if a.getD (k - 1) 0 < b.getD (k - 1) 0 then -1 else if a.getD (k - 1) 0 = b.getD (k - 1) 0 then 0 else 1), by simp only [hd, decide_false, Bool.not_false, if_true, Option.bind_some], ?_⟩
            simp only [hd, if_false, Sum.elim_inl, id]
            by_cases hlt : a.getD (k - 1) 0 < b.getD (k - 1) 0
            · have := val_lt_of da db (k := k - 1) (by omega) hl hdr hlt
              simp only [hlt, if_true, sgn, show x < y by omega]
            · have := val_lt_of db da (k := k - 1) (by omega) hl.symm hdr.symm (by omega)
              simp only [hlt, if_false, sgn, show ¬ x < y by omega, show ¬ x = y by omega]) a.length n 0 ⟨by omega, by omega, fun i q1 q2 => by omega⟩ (by omega)
    rw [h1]
    cases t with
    | inl u => exact congrArg some h2
    | inr u => exact congrArg some h2
  · have e : ¬ ((limbs x).length : Int) = (limbs y).length := by omega
    simp only [e, decide_false, Bool.not_false, if_true, cmp_int, if_false, Option.bind_some]
    by_cases h1 : (limbs x).length < (limbs y).length
    · have := sgn_len h1
      simp [sgn, this, h1]
    · have := sgn_len (x := y) (y := x) (by omega)
      simp [sgn, show ¬ x < y by omega, show ¬ x = y by omega, h1]
theorem nat_Compare {n x y : Nat} (hx : x < LIM) (hy : y < LIM) (hn : 10000 < n) : m_nat_Compare n (limbs x) (limbs y) = some (sgn x y) := by
  have h1 := lim_len.2 hx
  have h2 := lim_len.2 hy
  simp [m_nat_Compare, nat_Valid (n := n) (a := limbs x) (by simp only [ML]; omega) (by omega), nat_Valid (n := n) (a := limbs y) (by simp only [ML]; omega) (by omega), vld_limbs hx, vld_limbs hy, nat_compare (n := n) (x := x) (y := y) (by omega) (by omega) hn]
end
section
/- What the program's functions on numbers compute: differences and products. Conditions: none. -/
open Go

end
section
/- What the program's functions on numbers compute: quotients. Conditions: none. -/
open Go

end
section
/- What the program's functions on numbers compute: the rest. Conditions: none. -/
open Go

theorem valid_limbs {n x : Nat} (h : x < LIM) (hn : 10000 < n) : m_nat_Valid n (limbs x) = some true := by
  have := lim_len.2 h
  rw [nat_Valid (by simp only [ML]; omega) (by omega), vld_limbs h]
theorem limbs_snoc {l : List Int} {m : Nat} (h : m ≠ 0) : l ++ limbs m = (l ++ [((m % 65536 : Nat) : Int)]) ++ limbs (m / 65536) := by
  rw [limbs_pos h]; simp
theorem nat_small {n x : Nat} (h : x ≤ 9223372036854775807) (hn : 100 < n) : m_nat_small n (x : Int) = some (limbs x) := by
  unfold m_nat_small
  obtain ⟨t, q1, q2⟩ := iter_inv (σ := Int × List Int) (f := fun s => m_nat_small_L1 n s.1 s.2)
    (I := fun k s => ∃ m : Nat, s.1 = m ∧ m < 65536 ^ k ∧ m ≤ 9223372036854775807 ∧ k ≤ 4 ∧ s.2.length + k ≤ 4 ∧ s.2 ++ limbs m = limbs x)
    (Q := fun t => t = limbs x) (by
      rintro k ⟨j, l⟩ ⟨m, h1, h2, h3, h4, h5, h6⟩
      dsimp only at h1 h5 h6 ⊢
      subst h1
      simp only [m_nat_small_L1]
      by_cases h0 : m = 0
      · subst h0
        right
        refine ⟨l, by simp, ?_⟩
        rw [limbs_zero, List.append_nil] at h6; exact h6
      · left
        cases k with
        | zero => simp at h2; omega
        | succ k =>
          have e1 : (0 : Int) < m := by omega
          simp (disch := omega) only [e1, decide_true, if_true, remN, quoN, Option.bind_some]
          rw [app_some (by decide) (by simp; omega), Option.bind_some]
          refine ⟨_, k, rfl, by omega, m / 65536, by simp, ?_, by omega, by omega, by simp; omega, ?_⟩
          · rw [Nat.pow_succ] at h2
            exact Nat.div_lt_of_lt_mul (by rw [Nat.mul_comm]; exact h2)
          · rw [limbs_snoc h0] at h6
            simpa using h6) 4 n ((x : Int), []) ⟨x, rfl, by omega, h, by omega, by simp, rfl⟩ (by omega)
  rw [q1, q2]; rfl
theorem nat_Of {n x : Nat} (h : x ≤ 9223372036854775807) (hn : 100 < n) : m_nat_Of n (x : Int) = some (limbs x, 0) := by
  simp [m_nat_Of, nat_small h hn]
/-- How many binary digits a number has. -/
def bits (x : Nat) : Nat := if x = 0 then 0 else Nat.log2 x + 1
theorem bits_le {x k : Nat} : bits x ≤ k ↔ x < 2 ^ k := by
  unfold bits
  by_cases h : x = 0
  · subst h; simp [Nat.pow_pos]
  · rw [if_neg h]
    exact (Nat.log2_lt h)
theorem bits_mul_pow {d k : Nat} {r : Nat} (hd : d ≠ 0) (hr : r < 2 ^ k) : bits (r + 2 ^ k * d) = k + bits d := by
  apply Nat.le_antisymm
  · rw [bits_le, Nat.pow_add]
    have h1 : d < 2 ^ bits d := bits_le.1 (Nat.le_refl _)
    have h2 := Nat.mul_le_mul_left (2 ^ k) (show d + 1 ≤ 2 ^ bits d from h1)
    rw [Nat.mul_add] at h2; omega
  · have h0 : 0 < bits d := by
      simp [bits, hd]
    refine Nat.le_of_not_lt fun hc => ?_
    have h1 : ¬ bits d ≤ bits d - 1 := by omega
    rw [bits_le] at h1
    have h2 : bits (r + 2 ^ k * d) ≤ k + (bits d - 1) := by omega
    rw [bits_le, Nat.pow_add] at h2
    have h3 := Nat.mul_le_mul_left (2 ^ k) (show 2 ^ (bits d - 1) ≤ d by omega)
    omega
theorem bits_last {x : Nat} (h : x ≠ 0) : bits x = 16 * ((limbs x).length - 1) + bits ((limbs x).getD ((limbs x).length - 1) 0).toNat := by
  have h1 := val_take_succ (limbs x) ((limbs x).length - 1)
  have h0 : (limbs x).length ≠ 0 := fun hc => h (limbs_len0.1 hc)
  rw [show (limbs x).length - 1 + 1 = (limbs x).length by omega, take_all (Nat.le_refl _), val_limbs] at h1
  have h2 := val_bounds (digs_take (digs_limbs x) ((limbs x).length - 1))
  rw [List.length_take, Nat.min_eq_left (by omega)] at h2
  have h3 := digs_getD (digs_limbs x) ((limbs x).length - 1)
  have h4 := limbs_last h
  generalize (limbs x).getD ((limbs x).length - 1) 0 = d at *
  generalize val ((limbs x).take ((limbs x).length - 1)) = r at *
  generalize (limbs x).length - 1 = k at *
  have e : x = r.toNat + 2 ^ (16 * k) * d.toNat := by
    have e1 : (2 : Int) ^ (16 * k) = 65536 ^ k := by rw [Int.pow_mul]; rfl
    have e2 : (x : Int) = ((r.toNat + 2 ^ (16 * k) * d.toNat : Nat) : Int) := by
      rw [Int.natCast_add, Int.natCast_mul, Int.natCast_pow, Int.toNat_of_nonneg h2.1, Int.toNat_of_nonneg h3.1]
      show (x : Int) = r + 2 ^ (16 * k) * d
      rw [e1]; exact h1
    exact Int.ofNat_inj.1 e2
  rw [e]
  refine bits_mul_pow (by omega) ?_
  have e1 : (2 : Nat) ^ (16 * k) = 65536 ^ k := by rw [Nat.pow_mul]
  have e3 : ((65536 ^ k : Nat) : Int) = (65536 : Int) ^ k := by simp
  rw [e1]; omega
theorem bits_shr {x k : Nat} (h : 2 ^ k ≤ x) : bits x = bits (x / 2 ^ k) + k := by
  have h1 := Nat.div_add_mod x (2 ^ k)
  have hp : 0 < 2 ^ k := Nat.pow_pos (by decide)
  have h2 := bits_mul_pow (d := x / 2 ^ k) (k := k) (r := x % 2 ^ k) (by
    have := Nat.div_pos h hp; omega) (Nat.mod_lt _ hp)
  rw [show x % 2 ^ k + 2 ^ k * (x / 2 ^ k) = x by omega] at h2
  omega
def len8 : List UInt8 := [0, 1, 2, 2, 3, 3, 3, 3, 4, 4, 4, 4, 4, 4, 4, 4, 5, 5, 5, 5, 5, 5, 5, 5, 5, 5, 5, 5, 5, 5, 5, 5, 6, 6, 6, 6, 6, 6, 6, 6, 6, 6, 6, 6, 6, 6, 6, 6, 6, 6, 6, 6, 6, 6, 6, 6, 6, 6, 6, 6, 6, 6, 6, 6, 7, 7, 7, 7, 7, 7, 7, 7, 7, 7, 7, 7, 7, 7, 7, 7, 7, 7, 7, 7, 7, 7, 7, 7, 7, 7, 7, 7, 7, 7, 7, 7, 7, 7, 7, 7, 7, 7, 7, 7, 7, 7, 7, 7, 7, 7, 7, 7, 7, 7, 7, 7, 7, 7, 7, 7, 7, 7, 7, 7, 7, 7, 7, 7, 8, 8, 8, 8, 8, 8, 8, 8, 8, 8, 8, 8, 8, 8, 8, 8, 8, 8, 8, 8, 8, 8, 8, 8, 8, 8, 8, 8, 8, 8, 8, 8, 8, 8, 8, 8, 8, 8, 8, 8, 8, 8, 8, 8, 8, 8, 8, 8, 8, 8, 8, 8, 8, 8, 8, 8, 8, 8, 8, 8, 8, 8, 8, 8, 8, 8, 8, 8, 8, 8, 8, 8, 8, 8, 8, 8, 8, 8, 8, 8, 8, 8, 8, 8, 8, 8, 8, 8, 8, 8, 8, 8, 8, 8, 8, 8, 8, 8, 8, 8, 8, 8, 8, 8, 8, 8, 8, 8, 8, 8, 8, 8, 8, 8, 8, 8, 8, 8, 8, 8, 8, 8, 8, 8, 8, 8, 8, 8]
theorem len8_bits : ∀ i : Nat, i < 256 → ixS len8 (i : Int) = some ((bits i : Nat) : Int) := by decide +kernel
theorem wrap_u8 {x : Int} (h1 : 0 ≤ x) (h2 : x < 256) : IntKind.u8.wrap x = x := by simp [IntKind.wrap, IntKind.signed, IntKind.bits]; omega
theorem wrap_u64 {x : Int} (h1 : 0 ≤ x) (h2 : x < 18446744073709551616) : IntKind.u64.wrap x = x := by simp [IntKind.wrap, IntKind.signed, IntKind.bits]; omega
set_option maxRecDepth 100000 in
theorem len_small {n x : Nat} (h : x < 65536) : m_math_bits_Len n (x : Int) = some ((bits x : Nat) : Int) := by
  unfold m_math_bits_Len m_math_bits_Len64
  have e1 : ¬ (4294967296 : Int) ≤ x := by omega
  have e2 : ¬ (65536 : Int) ≤ x := by omega
  simp only [e1, e2, decide_false, Bool.false_eq_true, if_false, Option.bind_some]
  by_cases h3 : (256 : Int) ≤ x
  · have e4 : shrM .u64 (x : Int) 8 = some (((x / 256 : Nat)) : Int) := by
      unfold shrM
      rw [if_neg (by decide)]
      show some ((x : Int).fdiv 256) = _
      rw [Int.fdiv_eq_ediv_of_nonneg _ (by decide)]; rfl
    have e5 := bits_shr (x := x) (k := 8) (by omega)
    rw [show (2 : Nat) ^ 8 = 256 by decide] at e5
    have e6 := len8_bits (x / 256) (by omega)
    have e7 : bits (x / 256) ≤ 8 := bits_le.2 (by omega)
    have e8 := wrap_u8 (x := ((x / 256 : Nat) : Int)) (by omega) (by omega)
    simp only [h3, decide_true, if_true, e4, Option.bind_some, e8]
    simp only [len8] at e6
    rw [e6]
    simp (disch := omega) only [Option.bind_some, w64]
    congr 1; omega
  · have e6 := len8_bits x (by omega)
    have e7 : bits x ≤ 8 := bits_le.2 (by omega)
    have e8 := wrap_u8 (x := (x : Int)) (by omega) (by omega)
    simp only [h3, decide_false, Bool.false_eq_true, if_false, Option.bind_some, e8]
    simp only [len8] at e6
    rw [e6]
    simp (disch := omega) only [Option.bind_some, w64]
    congr 1; omega
theorem nat_Bits {n x : Nat} (h : x < LIM) (hn : 10000 < n) : m_nat_Bits n (limbs x) = some ((bits x : Nat) : Int) := by
  unfold m_nat_Bits
  rw [valid_limbs h hn, Option.bind_some]
  have l1 := lim_len.2 h
  by_cases h0 : x = 0
  · subst h0; simp [limbs_zero, bits]
  · have l0 : (limbs x).length ≠ 0 := fun hc => h0 (limbs_len0.1 hc)
    have e0 : ¬ ((limbs x).length : Int) = 0 := by omega
    have h3 := digs_getD (digs_limbs x) ((limbs x).length - 1)
    have e1 : (((limbs x).length : Int) - 1).toNat = (limbs x).length - 1 := by omega
    simp (disch := omega) only [Bool.not_true, e0, decide_false, Bool.or_self, Bool.false_eq_true, if_false, w64, ixI, Option.bind_some, e1]
    rw [wrap_u64 h3.1 (by omega)]
    have h4 := bits_last h0
    obtain ⟨d, hd⟩ : ∃ d : Nat, (limbs x).getD ((limbs x).length - 1) 0 = d := ⟨_, (Int.toNat_of_nonneg h3.1).symm⟩
    rw [hd] at h3 h4 ⊢
    rw [len_small (by omega)]
    have h5 : bits d ≤ 16 := bits_le.2 (by omega)
    rw [Int.toNat_natCast] at h4
    simp (disch := omega) only [Option.bind_some, w64]
    congr 1; omega
end
section
/- What the reference's functions on numbers compute. Conditions: none. -/
open Go

theorem ref_Valid {n : Nat} {a : List Int} (hl : a.length ≤ ML) (hn : a.length < n) : m_ref03_Valid n a = some (vld a) := by
  unfold m_ref03_Valid
  rcases iter_scan (f := fun s => m_ref03_Valid_L1 n a s) a.length (fun i => !(decide (0 ≤ a.getD i 0) && decide (a.getD i 0 < 65536))) (fun _ => .inl false) (.inr ()) a.length 0 n 0 (by omega) (fun j hj => by
    simp only [m_ref03_Valid_L1, show (j : Int) < a.length by omega, decide_true, if_true]
    rw [ix_get 0 hj]
    generalize a.getD j 0 = d
    simp only [Option.bind_some]
    by_cases h1 : d < 0
    · simp [h1, show ¬ 0 ≤ d by omega]
    · by_cases h2 : (65536 : Int) ≤ d
      · simp [h1, h2, show ¬ d < 65536 by omega]
      · simp only [h1, h2, decide_false, Bool.not_false, if_true, Option.bind_some, Bool.or_self, Bool.false_eq_true, if_false, show 0 ≤ d by omega, show d < 65536 by omega, decide_true, Bool.and_self, Bool.not_true]
        rw [wadd1 hj hl]) (by simp [m_ref03_Valid_L1]) hn rfl with ⟨i, _, h2, h3, _, h5⟩ | ⟨h1, h2⟩
  · rw [h5]
    simp only [Option.bind_some]
    have : (a.all fun d => decide (0 ≤ d) && decide (d < 65536)) = false := by
      rw [List.all_eq_false]
      exact ⟨a.getD i 0, by simp [h2], by rw [Bool.not_eq_true'] at h3; rw [h3]; decide⟩
    simp [vld, this]
  · rw [h2]
    simp only [Option.bind_some]
    have : (a.all fun d => decide (0 ≤ d) && decide (d < 65536)) = true := by
      rw [List.all_eq_true]
      intro d hd
      obtain ⟨i, h, rfl⟩ := List.getElem_of_mem hd
      have := h1 i (by omega) h
      simpa [List.getD_eq_getElem?_getD, h] using this
    simp only [vld, this, Bool.and_true]
    by_cases h5 : a.length = 0
    · simp [h5]
    · have h6 : ¬ (a.length : Int) = 0 := by omega
      simp only [h6, h5, decide_false, Bool.not_false, Bool.and_true, Bool.false_or]
      by_cases h7 : a.length ≤ 128
      · simp (disch := omega) only [h7, show (a.length : Int) ≤ 128 by omega, decide_true, if_true, w64, ixI, Option.bind_some, Bool.true_and]
        rw [show ((a.length : Int) - 1).toNat = a.length - 1 by omega]
      · simp [h7, show ¬ (a.length : Int) ≤ 128 by omega]
theorem ref_valid_limbs {n x : Nat} (h : x < LIM) (hn : 10000 < n) : m_ref03_Valid n (limbs x) = some true := by
  have := lim_len.2 h
  rw [ref_Valid (by simp only [ML]; omega) (by omega), vld_limbs h]
theorem ref_compare {n x y : Nat} (hx : (limbs x).length ≤ 1000) (hy : (limbs y).length ≤ 1000) (hn : 10000 < n) : m_ref03_compare n (limbs x) (limbs y) = some (sgn x y) := by
  unfold m_ref03_compare
  by_cases hl : (limbs x).length = (limbs y).length
  · have e : ((limbs x).length : Int) = (limbs y).length := by omega
    simp only [e, decide_true, Bool.not_true, Bool.false_eq_true, if_false]
    rw [← e, w64 (by omega) (by omega)]
    generalize ha : limbs x = a at *
    generalize hb : limbs y = b at *
    have da : digs a := ha ▸ digs_limbs x
    have db : digs b := hb ▸ digs_limbs y
    have vx : val a = x := by rw [← ha, val_limbs]
    have vy : val b = y := by rw [← hb, val_limbs]
    obtain ⟨t, h1, h2⟩ := iter_inv (σ := Int) (f := fun s => m_ref03_compare_L1 n a b s) (I := fun k s => s = (k : Int) - 1 ∧ k ≤ a.length ∧ ∀ i, k ≤ i → i < a.length → a.getD i 0 = b.getD i 0)
      (Q := fun t => Sum.elim id (fun _ => 0) t = sgn x y) (by
        rintro k s ⟨rfl, h2, h3⟩
        simp only [m_ref03_compare_L1]
        by_cases hk : k = 0
        · subst hk
          right
          refine ⟨.inr (), by simp, ?_⟩
          have := drop_ext hl h3
          simp only [List.drop_zero] at this
          subst this
          have : x = y := by omega
          subst this
          simp [sgn]
        · have e1 : (0 : Int) ≤ (k : Int) - 1 := by omega
          have e2 : ((k : Int) - 1).toNat = k - 1 := by omega
          have hdr : ∀ i, k - 1 + 1 ≤ i → i < a.length → a.getD i 0 = b.getD i 0 := fun i q1 q2 => h3 i (by omega) q2
          simp (disch := omega) only [e1, decide_true, if_true, ixI, Option.bind_some, e2, w64]
          by_cases hlt : a.getD (k - 1) 0 < b.getD (k - 1) 0
          · right
            refine ⟨.inl (-1), by simp only [hlt, decide_true, if_true], ?_⟩
            have := val_lt_of da db (k := k - 1) (by omega) hl (drop_ext hl hdr) hlt
            simp only [sgn, show x < y by omega, Sum.elim_inl, id, if_true]
          · by_cases hgt : b.getD (k - 1) 0 < a.getD (k - 1) 0
            · right
              refine ⟨.inl 1, by simp only [hlt, hgt, decide_true, decide_false, Bool.false_eq_true, if_false, if_true], ?_⟩
              have := val_lt_of db da (k := k - 1) (by omega) hl.symm (drop_ext hl hdr).symm hgt
              simp only [sgn, show ¬ x < y by omega, show ¬ x = y by omega, Sum.elim_inl, id, if_false]
            · left
              refine ⟨(k : Int) - 1 - 1, k - 1, by simp only [hlt, hgt, decide_false, Bool.false_eq_true, if_false], by omega, by omega, by omega, fun i q1 q2 => ?_⟩
              by_cases hi : i = k - 1
              · subst hi; omega
              · exact h3 i (by omega) q2) a.length n ((a.length : Int) - 1) ⟨rfl, by omega, fun i q1 q2 => by omega⟩ (by omega)
    rw [h1]
    cases t with
    | inl u => exact congrArg some h2
    | inr u => exact congrArg some h2
  · have e : ¬ ((limbs x).length : Int) = (limbs y).length := by omega
    simp only [e, decide_false, Bool.not_false, if_true]
    by_cases h1 : (limbs x).length < (limbs y).length
    · have := sgn_len h1
      simp [sgn, this, h1]
    · have := sgn_len (x := y) (y := x) (by omega)
      simp [sgn, show ¬ x < y by omega, show ¬ x = y by omega, h1]
theorem ref_Compare {n x y : Nat} (hx : x < LIM) (hy : y < LIM) (hn : 10000 < n) : m_ref03_Compare n (limbs x) (limbs y) = some (sgn x y) := by
  have h1 := lim_len.2 hx
  have h2 := lim_len.2 hy
  simp [m_ref03_Compare, ref_valid_limbs hx hn, ref_valid_limbs hy hn, ref_compare (n := n) (x := x) (y := y) (by omega) (by omega) hn]
end
section
/- What the reference's functions on numbers compute: quotients and the rest. Conditions: none. -/
open Go

theorem bits_half {x : Nat} (h : x ≠ 0) : bits x = bits (x / 2) + 1 := by
  by_cases h1 : x = 1
  · subst h1; decide
  · simpa using bits_shr (x := x) (k := 1) (by omega)
theorem ref_Bits {n x : Nat} (h : x < LIM) (hn : 10000 < n) : m_ref03_Bits n (limbs x) = some ((bits x : Nat) : Int) := by
  unfold m_ref03_Bits
  rw [ref_valid_limbs h hn, Option.bind_some]
  have l1 := lim_len.2 h
  by_cases h0 : x = 0
  · subst h0; simp [limbs_zero, bits]
  · have l0 : (limbs x).length ≠ 0 := fun hc => h0 (limbs_len0.1 hc)
    have e0 : ¬ ((limbs x).length : Int) = 0 := by omega
    have h3 := digs_getD (digs_limbs x) ((limbs x).length - 1)
    have e1 : (((limbs x).length : Int) - 1).toNat = (limbs x).length - 1 := by omega
    simp (disch := omega) only [Bool.not_true, e0, decide_false, Bool.or_self, Bool.false_eq_true, if_false, w64, ixI, Option.bind_some, e1]
    have h4 := bits_last h0
    obtain ⟨d, hd⟩ : ∃ d : Nat, (limbs x).getD ((limbs x).length - 1) 0 = d := ⟨_, (Int.toNat_of_nonneg h3.1).symm⟩
    rw [hd] at h3 h4 ⊢
    rw [Int.toNat_natCast] at h4
    have hb16 : bits d ≤ 16 := bits_le.2 (by omega)
    obtain ⟨t, q1, q2⟩ := iter_inv (σ := Int × Int) (f := fun s => m_ref03_Bits_L1 n s.1 s.2)
      (I := fun k s => ∃ e : Nat, s.2 = e ∧ k = bits e ∧ e < 65536 ∧ 0 ≤ s.1 ∧ s.1 + bits e = bits x) (Q := fun t => t = bits x) (by
        rintro k ⟨c, j⟩ ⟨e, p1, p2, p3, p5, p4⟩
        dsimp only at p1 p4 p5
        subst p1 p2
        simp only [m_ref03_Bits_L1]
        by_cases he : e = 0
        · subst he
          right
          exact ⟨c, by simp, by simpa [bits] using p4⟩
        · left
          have := bits_half he
          have e3 : (0 : Int) < e := by omega
          have hbx : bits x ≤ 2064 := by omega
          simp (disch := omega) only [e3, decide_true, if_true, quoN, Option.bind_some, w64]
          exact ⟨_, _, rfl, by omega, e / 2, by simp, rfl, by omega, by dsimp only; omega, by dsimp only; omega⟩) (bits d) n (16 * (((limbs x).length : Int) - 1), (d : Int)) ⟨d, rfl, rfl, by omega, by dsimp only; omega, by dsimp only; omega⟩ (by omega)
    rw [q1, q2]; rfl
theorem ref_Same {n : Nat} {a b : List Int} (hl : a.length ≤ ML) (hn : a.length < n) : m_ref03_Same n a b = some (decide (a = b)) := by
  unfold m_ref03_Same
  by_cases h : a.length = b.length
  · have e : (a.length : Int) = b.length := by omega
    simp only [e, decide_true, Bool.not_true, Bool.false_eq_true, if_false]
    rcases iter_scan (f := fun s => m_ref03_Same_L1 n a b s) a.length (fun i => !decide (a.getD i 0 = b.getD i 0)) (fun _ => .inl false) (.inr ()) a.length 0 n 0 (by omega) (fun j hj => by
      simp only [m_ref03_Same_L1, show (j : Int) < a.length by omega, decide_true, if_true]
      rw [ix_get 0 hj, ix_get 0 (by omega), wadd1 hj hl]
      simp only [Option.bind_some]
      split <;> rfl) (by simp [m_ref03_Same_L1]) hn rfl with ⟨i, _, h2, h3, _, h5⟩ | ⟨h1, h2⟩
    · rw [h5]
      have : a ≠ b := by
        intro hc; subst hc; simp at h3
      simp [this]
    · rw [h2]
      have : a.drop 0 = b.drop 0 := drop_ext h (fun i _ h4 => by
        have := h1 i (by omega) h4
        simpa [-List.getD_eq_getElem?_getD] using this)
      simp only [List.drop_zero] at this
      simp [this]
  · have : a ≠ b := fun hc => h (hc ▸ rfl)
    simp [this, show ¬ (a.length : Int) = b.length by omega]
end
end Go.Proofs.YtagdgndoabomiaaDoor.Ab
