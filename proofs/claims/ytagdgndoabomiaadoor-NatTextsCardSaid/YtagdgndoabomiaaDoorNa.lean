/- What the program's functions on numbers compute. Conditions: none. -/
import Derived.Test.YtagdgndoabomiaaDoorMi
import Derived.Test.YtagdgndoabomiaaDoorNt
namespace Go.Proofs.YtagdgndoabomiaaDoor.Ab
open Go

theorem nat_Valid {n : Nat} {a : List Int} (hl : a.length ≤ ML) (hn : a.length < n) : m_nat_Valid n a = some (vld a) := by
  have h2 : m_slices_ContainsFunc_nat_Nat_int n a (fun y1 => m_nat_Valid_1 n y1) = some (a.any fun d => decide (d < 0) || decide (65536 ≤ d)) :=
    contains_loop n a (fun y1 => m_nat_Valid_1 n y1) (fun d => decide (d < 0) || decide (65536 ≤ d)) (fun x _ => rfl) hl hn
  unfold m_nat_Valid
  by_cases h : a.length ≤ 128
  · have h1 : ¬ (128 : Int) < a.length := by omega
    simp only [h1, decide_false, Bool.not_false, if_true, Bool.false_or, h2, Option.bind_some]
    have h3 : (a.any fun d => decide (d < 0) || decide (65536 ≤ d)) = !(a.all fun d => decide (0 ≤ d) && decide (d < 65536)) := by
      rw [List.not_all_eq_any_not]
      congr 1; funext d
      rw [Bool.eq_iff_iff]; simp
    rw [h3]
    cases h4 : a.all fun d => decide (0 ≤ d) && decide (d < 65536) with
    | false => simp [vld, h4]
    | true =>
      simp only [vld, h, h4, Bool.not_true, Bool.false_eq_true, if_false, decide_true, Bool.true_and]
      by_cases h5 : a.length = 0
      · simp [h5]
      · have h6 : ¬ (a.length : Int) = 0 := by omega
        simp only [h6, h5, decide_false, Bool.not_false, if_true, Bool.false_or]
        rw [w64 (by omega) (by omega), ixI (by omega) (by omega)]
        rw [show ((a.length : Int) - 1).toNat = a.length - 1 by omega]
        rfl
  · have h1 : (128 : Int) < a.length := by omega
    simp [h1, vld, h]
theorem cmp_int {n : Nat} {a b : Int} : m_cmp_Compare_int n a b = some (if a < b then -1 else if a = b then 0 else 1) := by
  unfold m_cmp_Compare_int m_cmp_isNaN_int
  by_cases h1 : a < b
  · simp [h1]
  · by_cases h2 : a = b
    · simp [h2]
    · simp [h1, h2, show b < a by omega]
theorem nat_compare {n x y : Nat} (hx : (limbs x).length ≤ 1000) (hy : (limbs y).length ≤ 1000) (hn : 10000 < n) : m_nat_compare n (limbs x) (limbs y) = some (sgn x y) := by
  unfold m_nat_compare
  by_cases hl : (limbs x).length = (limbs y).length
  · have e : ((limbs x).length : Int) = (limbs y).length := by omega
    simp only [e, decide_true, Bool.not_true, Bool.false_eq_true, if_false]
    generalize ha : limbs x = a at *
    generalize hb : limbs y = b at *
    have da : digs a := ha ▸ digs_limbs x
    have db : digs b := hb ▸ digs_limbs y
    have vx : val a = x := by rw [← ha, val_limbs]
    have vy : val b = y := by rw [← hb, val_limbs]
    obtain ⟨t, h1, h2⟩ := iter_inv (f := fun s => m_nat_compare_L1 n a b s) (I := fun k s => (k : Int) = a.length - s ∧ 0 ≤ s ∧ ∀ i, k ≤ i → i < a.length → a.getD i 0 = b.getD i 0)
      (Q := fun t => Sum.elim id (fun _ => 0) t = sgn x y) (fun k s ⟨h1, h2, h3⟩ => by
        simp only [m_nat_compare_L1]
        by_cases hk : k = 0
        · subst hk
          right
          refine ⟨.inr (), by simp [show ¬ s < (a.length : Int) by omega], ?_⟩
          have := drop_ext hl h3
          simp only [List.drop_zero] at this
          subst this
          have : x = y := by omega
          subst this
          simp [sgn]
        · have e1 : s < (a.length : Int) := by omega
          have e2 : ((a.length : Int) - 1 - s) = ((k - 1 : Nat) : Int) := by omega
          simp (disch := omega) only [e1, decide_true, if_true, w64, e2, ixI, Option.bind_some, Int.toNat_natCast]
          by_cases hd : a.getD (k - 1) 0 = b.getD (k - 1) 0
          · left
            refine ⟨s + 1, k - 1, by simp only [hd, decide_true, Bool.not_true, Bool.false_eq_true, if_false], by omega, by omega, by omega, fun i q1 q2 => ?_⟩
            by_cases hi : i = k - 1
            · subst hi; exact hd
            · exact h3 i (by omega) q2
          · right
            have hdr : a.drop (k - 1 + 1) = b.drop (k - 1 + 1) := drop_ext hl (fun i q1 q2 => h3 i (by omega) q2)
            rw [cmp_int]
            refine ⟨.inl (if a.getD (k - 1) 0 < b.getD (k - 1) 0 then -1 else if a.getD (k - 1) 0 = b.getD (k - 1) 0 then 0 else 1), by simp only [hd, decide_false, Bool.not_false, if_true, Option.bind_some], ?_⟩
            simp only [hd, if_false, Sum.elim_inl, id]
            by_cases hlt : a.getD (k - 1) 0 < b.getD (k - 1) 0
            · have := val_lt_of da db (k := k - 1) (by omega) hl hdr hlt
              simp only [hlt, if_true, sgn, show x < y by omega]
            · have := val_lt_of db da (k := k - 1) (by omega) hl.symm hdr.symm (by omega)
              simp only [hlt, if_false, sgn, show ¬ x < y by omega, show ¬ x = y by omega]) a.length n 0 ⟨by omega, by omega, fun i q1 q2 => by omega⟩ (by omega)
    rw [h1]
    cases t with
    | inl u => exact congrArg some h2
    | inr u => exact congrArg some h2
  · have e : ¬ ((limbs x).length : Int) = (limbs y).length := by omega
    simp only [e, decide_false, Bool.not_false, if_true, cmp_int, if_false, Option.bind_some]
    by_cases h1 : (limbs x).length < (limbs y).length
    · have := sgn_len h1
      simp [sgn, this, h1]
    · have := sgn_len (x := y) (y := x) (by omega)
      simp [sgn, show ¬ x < y by omega, show ¬ x = y by omega, h1]
theorem nat_Compare {n x y : Nat} (hx : x < LIM) (hy : y < LIM) (hn : 10000 < n) : m_nat_Compare n (limbs x) (limbs y) = some (sgn x y) := by
  have h1 := lim_len.2 hx
  have h2 := lim_len.2 hy
  simp [m_nat_Compare, nat_Valid (n := n) (a := limbs x) (by simp only [ML]; omega) (by omega), nat_Valid (n := n) (a := limbs y) (by simp only [ML]; omega) (by omega), vld_limbs hx, vld_limbs hy, nat_compare (n := n) (x := x) (y := y) (by omega) (by omega) hn]
theorem nat_digit {n : Nat} {a : List Int} {i : Nat} : m_nat_digit n a (i : Int) = some (a.getD i 0) := by
  unfold m_nat_digit
  by_cases h : i < a.length
  · simp only [show (i : Int) < a.length by omega, decide_true, if_true]
    rw [ixI (by omega) (by omega)]; rfl
  · simp [show ¬ (i : Int) < a.length by omega, List.getD_eq_getElem?_getD, List.getElem?_eq_none (show a.length ≤ i by omega)]
theorem nat_trimmed {n : Nat} {a : List Int} (h : digs a) (hl : a.length ≤ 1000) (hn : 10000 < n) : m_nat_trimmed n a = some (trim a) := by
  unfold m_nat_trimmed
  obtain ⟨t, h1, h2⟩ := iter_inv (f := fun s => m_nat_trimmed_L1 n s) (I := fun k s => k = s.length ∧ k ≤ 1000 ∧ digs s ∧ trim s = trim a) (Q := fun t => t = trim a) (fun k s ⟨h1, h2, h3, h4⟩ => by
    subst h1
    simp only [m_nat_trimmed_L1]
    by_cases h0 : s.length = 0
    · right
      refine ⟨s, by simp [h0], by rw [← h4, trim_end h3 (.inl h0)]⟩
    · have e1 : (0 : Int) < s.length := by omega
      have e2 : ((s.length : Int) - 1).toNat = s.length - 1 := by omega
      simp (disch := omega) only [e1, decide_true, if_true, w64, ixI, Option.bind_some, Bool.true_and, e2, slc_some]
      by_cases hz : s.getD (s.length - 1) 0 = 0
      · left
        refine ⟨s.take (s.length - 1), s.length - 1, by simp [-List.getD_eq_getElem?_getD, hz], by omega, by simp, by omega, digs_take h3 _, by rw [trim_zero h0 hz, h4]⟩
      · right
        exact ⟨s, by simp [-List.getD_eq_getElem?_getD, hz], by rw [← h4, trim_end h3 (.inr hz)]⟩) a.length n a ⟨rfl, hl, h, rfl⟩ (by omega)
  rw [h1, h2]; rfl
theorem nat_trimmed_f2 {n : Nat} {a : List Int} (h : digs a) (hl : a.length ≤ 1000) (hn : 10000 < n) : m_nat_trimmed_f2 n a = some (trim a) := by
  rw [← nat_trimmed (n := n) h hl hn]
  unfold m_nat_trimmed_f2 m_nat_trimmed
  congr 2
  funext s
  unfold m_nat_trimmed_f2_L1 m_nat_trimmed_L1
  split
  · cases ix s (IntKind.i64.wrap ((s.length : Int) - 1)) <;> rfl
  · rfl
end Go.Proofs.YtagdgndoabomiaaDoor.Ab
