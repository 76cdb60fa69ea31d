/- Of, Int, Valid, Compare and Bits. Conditions: none. -/
import Derived.Test.YtagdgndoabomiaaDoorQb
namespace Go.Proofs.YtagdgndoabomiaaDoor.Ab
open Go Go.RowKit

theorem both_Of {m : Int} (hm : -9223372036854775808 ≤ m ∧ m ≤ 9223372036854775807) : Both (m_nat_Of FU m) (m_ref03_Of FU m) := by
  by_cases h0 : m < 0
  · exact ⟨([], 2), by simp [m_nat_Of, h0], by simp [m_ref03_Of, h0], by simp⟩
  · obtain ⟨x, rfl⟩ : ∃ x : Nat, m = x := ⟨m.toNat, by omega⟩
    have hx : x ≤ 9223372036854775807 := by omega
    have h1 := nat_small (n := FU) hx (by decide)
    refine ⟨(limbs x, 0), nat_Of hx (by decide), ?_, ?_⟩
    · have e : (fun s : Int × List Int => m_ref03_Of_L1 FU s.1 s.2) = fun s => m_nat_small_L1 FU s.1 s.2 := rfl
      unfold m_ref03_Of
      rw [if_neg (by simp)]
      unfold m_nat_small at h1
      rw [e]
      obtain ⟨t, ht, h2⟩ := Option.bind_eq_some_iff.1 h1
      rw [ht]; cases h2; rfl
    · refine Nat.le_trans (limbs_len (k := 4).2 ?_) (by decide)
      omega
theorem fold_val : ∀ {l : List Int}, digs l → val l ≤ 4611686018427387904 → l.foldr (fun x y => wrap64 (wrap64 (65536 * y) + x)) 0 = val l
  | [], _, _ => rfl
  | d :: l, hd, h => by
    obtain ⟨h1, h2⟩ := digs_cons.1 hd
    have h3 := val_bounds h2
    have e : val (d :: l) = d + 65536 * val l := rfl
    rw [e] at h ⊢
    rw [List.foldr_cons, fold_val h2 (by omega)]
    unfold wrap64; omega
theorem fold_limbs {x : Nat} (h : x ≤ 4611686018427387904) : (limbs x).reverse.foldl (fun s d => wrap64 (wrap64 (65536 * s) + d)) 0 = (x : Int) := by
  rw [List.foldl_reverse, fold_val (digs_limbs x) (by rw [val_limbs]; omega), val_limbs]
theorem big_lim : (4611686018427387904 : Nat) < LIM := by decide +kernel
def intOfN (x : Nat) : Int × Int := if 4611686018427387904 < x then (0, 2) else ((x : Int), 0)
theorem nat_Int {x : Nat} (hx : x < LIM) : natInt (m_nat_Valid FU (limbs x)) (m_nat_small FU 4611686018427387904) (fun s => m_nat_compare FU (limbs x) s) (limbs x) = some (intOfN x) := by
  have lx := lim_len.2 hx
  have h1 := nat_small (n := FU) (x := 4611686018427387904) (by decide) (by decide)
  have e : ((4611686018427387904 : Nat) : Int) = 4611686018427387904 := rfl
  rw [e] at h1
  have l2 := lim_len.2 big_lim
  unfold natInt
  rw [valid_limbs hx fu4, Option.bind_some, if_neg (by simp), h1, Option.bind_some]
  show ((m_nat_compare FU (limbs x) (limbs 4611686018427387904)).bind _) = _
  rw [nat_compare (by omega) (by omega) fu4, Option.bind_some]
  by_cases h : 4611686018427387904 < x
  · rw [if_pos (sgn_gt.2 h), intOfN, if_pos h]
  · rw [if_neg (fun hc => h (sgn_gt.1 hc)), if_pos (by omega), fold_limbs (by omega), intOfN, if_neg h]
theorem ref_Int {x : Nat} (hx : x < LIM) : m_ref03_Int FU (limbs x) = some (intOfN x) := by
  have lx := lim_len.2 hx
  unfold m_ref03_Int
  rw [ref_valid_limbs hx fu4, Option.bind_some, if_neg (by simp), ref_Bits hx fu4, Option.bind_some]
  by_cases hb : 63 < bits x
  · have h63 : ¬ x < 2 ^ 63 := fun hc => by have := bits_le.2 hc; omega
    rw [if_pos (by simp; omega), intOfN, if_pos (by omega)]
  · have h63 : x < 2 ^ 63 := bits_le.1 (by omega)
    rw [if_neg (by simp; omega)]
    have dl := digs_limbs x
    have vl := val_limbs x
    generalize limbs x = l at *
    obtain ⟨t, q1, q2⟩ := iter_inv (σ := Int × Int) (f := fun s => m_ref03_Int_L1 FU l s.1 s.2)
      (I := fun k s => k ≤ l.length ∧ s.2 = (k : Int) - 1 ∧ s.1 = val (l.drop k)) (Q := fun t => t = val l) (by
        rintro k ⟨c, j⟩ ⟨p0, p1, p2⟩
        dsimp only at p1 p2
        subst p1 p2
        simp only [m_ref03_Int_L1]
        rcases k with _ | k
        · right
          exact ⟨val l, by simp, rfl⟩
        · left
          have e0 : ((k + 1 : Nat) : Int) - 1 = k := by omega
          rw [e0]
          have hk : k < l.length := by omega
          have b0 := val_bounds (digs_take dl k)
          have b1 := val_bounds (digs_drop dl k)
          have b2 := val_bounds (digs_drop dl (k + 1))
          have b3 := digs_getD dl k
          have s1 := val_split l k (by omega)
          have s2 : val (l.drop k) = l.getD k 0 + 65536 * val (l.drop (k + 1)) := by
            rw [List.drop_eq_getElem_cons hk]
            simp [val, hk]
          have s3 : val (l.drop k) ≤ val l := by
            have p := pow_pos k
            have : 1 * val (l.drop k) ≤ 65536 ^ k * val (l.drop k) := Int.mul_le_mul_of_nonneg_right (by omega) b1.1
            omega
          have hv : val l < 9223372036854775808 := by omega
          rw [if_pos (by simp), ixI (by omega) (by omega), Option.bind_some, Int.toNat_natCast, w64 (x := val (l.drop (k + 1)) * 65536) (by omega) (by omega), w64 (x := val (l.drop (k + 1)) * 65536 + l.getD k 0) (by omega) (by omega), w64 (x := (k : Int) - 1) (by omega) (by omega)]
          exact ⟨_, k, rfl, by omega, by omega, rfl, by dsimp only; omega⟩) l.length FU (0, (l.length : Int) - 1) ⟨Nat.le_refl _, rfl, by simp [val]⟩ (fuM (Nat.le_trans lx (by decide)))
    rw [w64 (x := (l.length : Int) - 1) (by omega) (by omega), q1, q2, Option.bind_some, vl, intOfN]
    by_cases h : 4611686018427387904 < x
    · rw [if_pos (by simp; omega), if_pos h]
    · rw [if_neg (by simp; omega), if_neg h]
theorem both_Int {a : List Int} (la : a.length ≤ ML) : ∃ r, natInt (m_nat_Valid FU a) (m_nat_small FU 4611686018427387904) (fun s => m_nat_compare FU a s) a = some r ∧ m_ref03_Int FU a = some r := by
  cases ha : vld a with
  | false => exact ⟨(0, 1), by rw [natInt, nat_Valid la (fuM la), ha]; rfl, by rw [m_ref03_Int, ref_Valid la (fuM la), ha]; rfl⟩
  | true =>
    obtain ⟨x, hx, rfl⟩ := vld_inv ha
    exact ⟨_, nat_Int hx, ref_Int hx⟩
theorem both_Compare {a b : List Int} (la : a.length ≤ ML) (lb : b.length ≤ ML) : ∃ r, m_nat_Compare FU a b = some r ∧ m_ref03_Compare FU a b = some r := by
  cases ha : vld a with
  | false => exact ⟨0, by rw [m_nat_Compare, nat_Valid la (fuM la), ha]; rfl, by rw [m_ref03_Compare, ref_Valid la (fuM la), ha]; rfl⟩
  | true =>
    cases hb : vld b with
    | false => exact ⟨0, by rw [m_nat_Compare, nat_Valid la (fuM la), ha, Option.bind_some, nat_Valid lb (fuM lb), hb]; rfl, by rw [m_ref03_Compare, ref_Valid la (fuM la), ha, Option.bind_some, ref_Valid lb (fuM lb), hb]; rfl⟩
    | true =>
      obtain ⟨x, hx, rfl⟩ := vld_inv ha
      obtain ⟨y, hy, rfl⟩ := vld_inv hb
      exact ⟨_, nat_Compare hx hy fu4, ref_Compare hx hy fu4⟩
theorem both_Bits {a : List Int} (la : a.length ≤ ML) : ∃ r, m_nat_Bits FU a = some r ∧ m_ref03_Bits FU a = some r := by
  cases ha : vld a with
  | false => exact ⟨0, by rw [m_nat_Bits, nat_Valid la (fuM la), ha]; rfl, by rw [m_ref03_Bits, ref_Valid la (fuM la), ha]; rfl⟩
  | true =>
    obtain ⟨x, hx, rfl⟩ := vld_inv ha
    exact ⟨_, nat_Bits hx fu4, ref_Bits hx fu4⟩
theorem plain_NatForms {m : Int} {a b : List Int} (hm : -9223372036854775808 ≤ m ∧ m ≤ 9223372036854775807) (la : a.length ≤ ML) (lb : b.length ≤ ML) : m_law03_NatForms FU m a b = some true := by
  unfold m_law03_NatForms
  obtain ⟨v, hv⟩ := few_any (a := a) (b := b)
  obtain ⟨r1, p1, q1, l1⟩ := both_Of hm
  obtain ⟨r2, p2, q2⟩ := both_Int la
  obtain ⟨r3, p3, q3⟩ := both_Compare la lb
  obtain ⟨r4, p4, q4⟩ := both_Bits la
  rw [nat_Valid la (fuM la)] at p2
  cases v <;> simp [awake03, hv, p1, q1, p2, q2, p3, q3, p4, q4, same_self l1, nat_Valid la (fuM la), ref_Valid la (fuM la)]
end Go.Proofs.YtagdgndoabomiaaDoor.Ab
