/- Plain laws, joined. Conditions: none. -/
import Derived.Test.YtkdefjliknpliaaGreatDoorUg
namespace Go.Proofs.YtkdefjliknpliaaGreatDoor.Ab
section
/- Valid tables and who is in them, in plain Lean. Conditions: none. -/
open Go
theorem adj_pair {α : Type} {R : α → α → Prop} (ht : ∀ {x y z}, R x y → R y z → R x z) {l : List α} (h : ∀ i (h1 : 0 < i) (h2 : i < l.length), R l[i - 1] l[i]) : l.Pairwise R := by
  rw [List.pairwise_iff_getElem]
  intro i j hi hj hij
  induction j with
  | zero => omega
  | succ j ih =>
    have h1 := h (j + 1) (by omega) hj
    simp only [Nat.add_sub_cancel] at h1
    by_cases hij2 : i = j
    · subst hij2; exact h1
    · exact ht (ih (by omega) (by omega)) h1
theorem pair_adj {α : Type} {R : α → α → Prop} {l : List α} (h : l.Pairwise R) {i : Nat} (h1 : 0 < i) (h2 : i < l.length) : R l[i - 1] l[i] := List.pairwise_iff_getElem.1 h _ _ (by omega) h2 (by omega)
def idsB (l : List Int) : Bool := !anyN l.length fun i => decide (l.getD i 0 < 1) || decide (1000000000 < l.getD i 0) || decide (0 < i) && decide (l.getD i 0 ≤ l.getD (i - 1) 0)
theorem idsB_iff {l : List Int} : idsB l = true ↔ AscI l ∧ ∀ x ∈ l, 1 ≤ x ∧ x ≤ 1000000000 := by
  unfold idsB
  rw [Bool.not_eq_true', anyN_f]
  constructor
  · intro h
    refine ⟨adj_pair (R := fun a b : Int => a < b) (fun h1 h2 => Int.lt_trans h1 h2) fun i h1 h2 => ?_, fun x hx => ?_⟩
    · have := h i h2
      rw [List.getD_eq_getElem?_getD, List.getD_eq_getElem?_getD, List.getElem?_eq_getElem h2, List.getElem?_eq_getElem (show i - 1 < l.length by omega)] at this
      simp [h1] at this
      omega
    · obtain ⟨i, hi, rfl⟩ := List.getElem_of_mem hx
      have := h i hi
      rw [List.getD_eq_getElem?_getD, List.getElem?_eq_getElem hi] at this
      simp at this
      omega
  · rintro ⟨h1, h2⟩ i hi
    have h3 := h2 _ (List.getElem_mem hi)
    rw [List.getD_eq_getElem?_getD, List.getElem?_eq_getElem hi]
    by_cases h0 : 0 < i
    · have h4 := pair_adj h1 h0 hi
      rw [List.getD_eq_getElem?_getD, List.getElem?_eq_getElem (show i - 1 < l.length by omega)]
      simp [h0]; omega
    · simp [h0]; omega
structure VB (b : SBlock) : Prop where
  k : b.fKey ≠ []
  n : b.fIDs ≠ []
  a : AscI b.fIDs
  r : ∀ x ∈ b.fIDs, 1 ≤ x ∧ x ≤ 1000000000
structure VT (t : List SBlock) : Prop where
  b : ∀ b ∈ t, VB b
  a : AscS (t.map (·.fKey))
def bd (t : List SBlock) (i : Nat) : SBlock := t.getD i ⟨[], []⟩
theorem bd_eq {t : List SBlock} {i : Nat} (h : i < t.length) : bd t i = t[i] := by simp [bd, h]
def tabB (t : List SBlock) : Bool := !anyN t.length fun i => decide ((bd t i).fKey = []) || decide ((bd t i).fIDs = []) || decide (0 < i) && !ltS (bd t (i - 1)).fKey (bd t i).fKey || !idsB (bd t i).fIDs
theorem tabB_iff {t : List SBlock} : tabB t = true ↔ VT t := by
  unfold tabB
  rw [Bool.not_eq_true', anyN_f]
  constructor
  · intro h
    refine ⟨fun b hb => ?_, adj_pair (R := fun a b : List UInt8 => a < b) (fun h1 h2 => List.lt_trans h1 h2) fun i h1 h2 => ?_⟩
    · obtain ⟨i, hi, rfl⟩ := List.getElem_of_mem hb
      have := h i hi
      simp only [bd_eq hi, Bool.or_eq_false_iff, decide_eq_false_iff_not, Bool.not_eq_false'] at this
      have h2 := idsB_iff.1 this.2
      exact ⟨this.1.1.1, this.1.1.2, h2.1, h2.2⟩
    · rw [List.length_map] at h2
      have := h i h2
      simp only [bd_eq h2, bd_eq (show i - 1 < t.length by omega), Bool.or_eq_false_iff, h1, decide_true, Bool.true_and, Bool.not_eq_false', ltS_str, decide_eq_true_eq] at this
      rw [List.getElem_map, List.getElem_map]
      exact this.1.2
  · rintro ⟨h1, h2⟩ i hi
    have h3 := h1 _ (List.getElem_mem hi)
    simp only [bd_eq hi, idsB_iff.2 ⟨h3.a, h3.r⟩, h3.k, h3.n, decide_false, Bool.false_or, Bool.not_true, Bool.or_false]
    by_cases h0 : 0 < i
    · have h4 := pair_adj h2 h0 (by simpa using hi)
      rw [List.getElem_map, List.getElem_map] at h4
      simp only [bd_eq (show i - 1 < t.length by omega), ltS_str, h4, decide_true, Bool.not_true, Bool.and_false]
    · simp [h0]
structure TB (t : List SBlock) : Prop where
  n : t.length ≤ 1000000
  i : ∀ b ∈ t, b.fIDs.length ≤ 1000000
theorem bids_ok {l : List Int} (hl : l.length ≤ 1000000) : m_block_ids FU l = some (idsB l && !decide (l = [])) := by
  unfold m_block_ids
  rw [iter_any (ρ := Bool ⊕ Unit) l.length FU (fun i => decide (l.getD i 0 < 1) || decide (1000000000 < l.getD i 0) || decide (0 < i) && decide (l.getD i 0 ≤ l.getD (i - 1) 0)) (.inl false) (.inr ()) (fun j hj => by
    unfold m_block_ids_L1
    rw [if_pos (decide_eq_true (by omega)), ix_get 0 hj, Option.bind_some, wadd1 hj (by simp only [ML]; omega)]
    by_cases h0 : 0 < j
    · rw [wsub1 h0 (by simp only [ML]; omega), ix_get 0 (show j - 1 < l.length by omega)]
      generalize l.getD j 0 = x
      generalize l.getD (j - 1) 0 = y
      by_cases q1 : x < 1
      · simp [q1]
      · by_cases q2 : 1000000000 < x
        · simp [q1, q2]
        · simp [q1, q2, h0]
          split <;> rfl
    · have h00 : ¬ (0 : Int) < (j : Int) := by omega
      generalize l.getD j 0 = x
      by_cases q1 : x < 1
      · simp [q1]
      · by_cases q2 : 1000000000 < x
        · simp [q1, q2]
        · simp [q1, q2, h0]) (by unfold m_block_ids_L1; simp) (by simp only [FU]; omega)]
  unfold idsB
  cases hq : anyN l.length fun i => decide (l.getD i 0 < 1) || decide (1000000000 < l.getD i 0) || decide (0 < i) && decide (l.getD i 0 ≤ l.getD (i - 1) 0) with
  | true => simp
  | false =>
    simp only [Bool.false_eq_true, if_false, Option.bind_some, Bool.not_false, Bool.true_and]
    congr 1
    rw [← decide_not, decide_eq_decide, ← List.length_eq_zero_iff]; omega
theorem ib {α β : Type} {c : Bool} {x : α} {y : Option α} {f : α → Option β} (h : c = true → y = some x) {d : α} : ((if c = true then y else some d).bind f) = f (if c = true then x else d) := by
  cases c with
  | true => rw [if_pos rfl, if_pos rfl, h rfl]; rfl
  | false => rw [if_neg (by simp), if_neg (by simp)]; rfl
theorem bval_ok {t : List SBlock} (ht : TB t) : m_block_Valid FU t = some (tabB t) := by
  unfold m_block_Valid
  have hl := ht.n
  rw [iter_any (ρ := Bool ⊕ Unit) t.length FU (fun i => decide ((bd t i).fKey = []) || decide ((bd t i).fIDs = []) || decide (0 < i) && !ltS (bd t (i - 1)).fKey (bd t i).fKey || !idsB (bd t i).fIDs) (.inl false) (.inr ()) (fun j hj => by
    unfold m_block_Valid_L1
    have hI := bids_ok (ht.i _ (List.getElem_mem hj))
    rw [if_pos (decide_eq_true (by omega)), ixL hj, Option.bind_some, wadd1 hj (by simp only [ML]; omega), hI, bd_eq hj]
    generalize t[j] = b
    by_cases h0 : 0 < j
    · rw [wsub1 h0 (by simp only [ML]; omega), ixL (show j - 1 < t.length by omega), bd_eq (show j - 1 < t.length by omega)]
      generalize t[j - 1] = a
      rw [decide_eq_true h0, decide_eq_true (show (0 : Int) < (j : Int) by omega), ib (fun _ => rfl), ltS_tri]
      by_cases q1 : b.fKey = []
      · simp [q1]
      · rw [decide_eq_false q1]
        simp only [Bool.not_false, Bool.true_and, if_true, Bool.false_or]
        cases ltS a.fKey b.fKey with
        | false => simp
        | true =>
          cases idsB b.fIDs <;> cases decide (b.fIDs = []) <;> rfl
    · rw [decide_eq_false h0, decide_eq_false (show ¬ (0 : Int) < (j : Int) by omega)]
      by_cases q1 : b.fKey = []
      · simp [q1]
      · rw [decide_eq_false q1]
        cases idsB b.fIDs <;> cases decide (b.fIDs = []) <;> rfl) (by unfold m_block_Valid_L1; simp) (by simp only [FU]; omega)]
  unfold tabB
  cases anyN t.length fun i => decide ((bd t i).fKey = []) || decide ((bd t i).fIDs = []) || decide (0 < i) && !ltS (bd t (i - 1)).fKey (bd t i).fKey || !idsB (bd t i).fIDs <;> rfl
theorem rids_ok {b : SBlock} (hl : b.fIDs.length ≤ 1000000) : iter FU (fun s => m_ref30_Valid_L2 FU b s) (0 : Int) = some (if idsB b.fIDs = true then .inr () else .inl false) := by
  rw [iter_any (ρ := Bool ⊕ Unit) b.fIDs.length FU (fun i => decide (b.fIDs.getD i 0 < 1) || decide (1000000000 < b.fIDs.getD i 0) || decide (0 < i) && decide (b.fIDs.getD i 0 ≤ b.fIDs.getD (i - 1) 0)) (.inl false) (.inr ()) (fun j hj => by
    unfold m_ref30_Valid_L2
    rw [if_pos (decide_eq_true (by omega)), ix_get 0 hj, Option.bind_some, wadd1 hj (by simp only [ML]; omega)]
    by_cases h0 : 0 < j
    · rw [wsub1 h0 (by simp only [ML]; omega), ix_get 0 (show j - 1 < b.fIDs.length by omega)]
      generalize b.fIDs.getD j 0 = x
      generalize b.fIDs.getD (j - 1) 0 = y
      by_cases q1 : x < 1
      · simp [q1]
      · by_cases q2 : 1000000000 < x
        · simp [q1, q2, show ¬ x ≤ 1000000000 by omega]
        · simp [q1, q2, h0, show x ≤ 1000000000 by omega]
          split <;> rfl
    · have h00 : ¬ (0 : Int) < (j : Int) := by omega
      generalize b.fIDs.getD j 0 = x
      by_cases q1 : x < 1
      · simp [q1]
      · by_cases q2 : 1000000000 < x
        · simp [q1, q2, show ¬ x ≤ 1000000000 by omega]
        · simp [q1, q2, h0]) (by unfold m_ref30_Valid_L2; simp) (by simp only [FU]; omega)]
  unfold idsB
  cases anyN b.fIDs.length fun i => decide (b.fIDs.getD i 0 < 1) || decide (1000000000 < b.fIDs.getD i 0) || decide (0 < i) && decide (b.fIDs.getD i 0 ≤ b.fIDs.getD (i - 1) 0) <;> rfl
theorem rval_ok {t : List SBlock} (ht : TB t) : m_ref30_Valid FU t = some (tabB t) := by
  unfold m_ref30_Valid
  have hl := ht.n
  rw [iter_any (ρ := Bool ⊕ Unit) t.length FU (fun i => decide ((bd t i).fKey = []) || decide ((bd t i).fIDs = []) || decide (0 < i) && !ltS (bd t (i - 1)).fKey (bd t i).fKey || !idsB (bd t i).fIDs) (.inl false) (.inr ()) (fun j hj => by
    unfold m_ref30_Valid_L1
    have hI := rids_ok (ht.i _ (List.getElem_mem hj))
    rw [if_pos (decide_eq_true (by omega)), ixL hj, wadd1 hj (by simp only [ML]; omega), Option.bind_some, Option.bind_some, hI, bd_eq hj]
    generalize t[j] = b
    have e0 : decide ((b.fIDs.length : Int) = 0) = decide (b.fIDs = []) := by rw [decide_eq_decide, ← List.length_eq_zero_iff]; omega
    by_cases q1 : b.fKey = []
    · simp [q1]
    · by_cases q2 : b.fIDs = []
      · simp [q1, q2]
      · by_cases h0 : 0 < j
        · rw [wsub1 h0 (by simp only [ML]; omega), ixL (show j - 1 < t.length by omega), bd_eq (show j - 1 < t.length by omega)]
          generalize t[j - 1] = a
          simp only [q1, q2, e0, decide_false, Bool.not_false, if_true, Option.bind_some, h0, show (0 : Int) < (j : Int) by omega, decide_true, Bool.or_self, Bool.and_self, Bool.true_and, Bool.false_or]
          cases ltS a.fKey b.fKey with
          | false => simp
          | true => cases idsB b.fIDs <;> rfl
        · have h00 : ¬ (0 : Int) < (j : Int) := by omega
          simp only [q1, q2, e0, h0, h00, decide_false, Bool.not_false, if_true, Option.bind_some, Bool.or_self, Bool.and_false, Bool.false_and, Bool.false_eq_true, if_false, Bool.or_false, Bool.false_or]
          cases idsB b.fIDs <;> rfl) (by unfold m_ref30_Valid_L1; simp) (by simp only [FU]; omega)]
  unfold tabB
  cases anyN t.length fun i => decide ((bd t i).fKey = []) || decide ((bd t i).fIDs = []) || decide (0 < i) && !ltS (bd t (i - 1)).fKey (bd t i).fKey || !idsB (bd t i).fIDs <;> rfl
def hasT (t : List SBlock) (x : Int) : Bool := t.any fun b => decide (x ∈ b.fIDs)
theorem mem_anyN {l : List Int} {x : Int} : anyN l.length (fun i => decide (l.getD i 0 = x)) = decide (x ∈ l) := by
  rw [anyN_getD l 0 (fun y => decide (y = x)), Bool.eq_iff_iff]; simp
theorem bhas_ok {t : List SBlock} {x : Int} (ht : TB t) : m_block_has FU t x = some (hasT t x) := by
  have h1 : ∀ b ∈ t, m_block_has_1 FU b x = some (decide (x ∈ b.fIDs)) := fun b hb => by
    have hl := ht.i b hb
    have := contains_loop FU b.fIDs (fun v => some (decide (x = v))) (fun v => decide (x = v)) (fun _ _ => rfl) (by simp only [ML]; omega) (by simp only [FU]; omega)
    have h2 : m_slices_Contains_int_int FU b.fIDs x = some (b.fIDs.any fun v => decide (x = v)) := this
    unfold m_block_has_1
    rw [h2, Option.bind_some]
    congr 1
    rw [Bool.eq_iff_iff]; simp
  have h2 := contains_loop FU t (fun b => m_block_has_1 FU b x) (fun b => decide (x ∈ b.fIDs)) h1 (by have := ht.n; simp only [ML]; omega) (by have := ht.n; simp only [FU]; omega)
  have h3 : m_slices_ContainsFunc_block_Table_block_Block FU t (fun b => m_block_has_1 FU b x) = some (hasT t x) := h2
  unfold m_block_has
  rw [h3]; rfl
theorem rhas_ok {l : List Int} {x : Int} (hl : l.length ≤ 1000000) : m_ref30_has FU l x = some (decide (x ∈ l)) := by
  unfold m_ref30_has
  rw [iter_any (ρ := Bool ⊕ Unit) l.length FU (fun i => decide (l.getD i 0 = x)) (.inl true) (.inr ()) (fun j hj => by
    unfold m_ref30_has_L1
    rw [if_pos (decide_eq_true (by omega)), ix_get 0 hj, Option.bind_some, wadd1 hj (by simp only [ML]; omega)]
    split <;> rfl) (by unfold m_ref30_has_L1; simp) (by simp only [FU]; omega), mem_anyN]
  cases decide (x ∈ l) <;> rfl
theorem rin_ok {t : List SBlock} {x : Int} (ht : TB t) : m_ref30_In FU t x = some (hasT t x) := by
  unfold m_ref30_In
  have hl := ht.n
  rw [iter_any (ρ := Bool ⊕ Unit) t.length FU (fun i => decide (x ∈ (bd t i).fIDs)) (.inl true) (.inr ()) (fun j hj => by
    unfold m_ref30_In_L1
    rw [if_pos (decide_eq_true (by omega)), ixL hj, Option.bind_some, rhas_ok (ht.i _ (List.getElem_mem hj)), Option.bind_some, wadd1 hj (by simp only [ML]; omega), bd_eq hj]
    split <;> rfl) (by unfold m_ref30_In_L1; simp) (by simp only [FU]; omega)]
  have e : anyN t.length (fun i => decide (x ∈ (bd t i).fIDs)) = hasT t x := anyN_getD t ⟨[], []⟩ (fun b => decide (x ∈ b.fIDs))
  rw [e]
  cases hasT t x <;> rfl
end
section
/- A record is put into a table, in plain Lean. Conditions: none. -/
open Go
theorem bs_iter {f : Int × Int → Option ((Int × Int) ⊕ Int)} {m : Nat} {p : Nat → Bool}
    (hstep : ∀ i j : Nat, i < j → j ≤ m → f ((i : Int), (j : Int)) = some (.inl (if p ((i + j) / 2) = true then ((i : Int), (((i + j) / 2 : Nat) : Int)) else ((((i + j) / 2 + 1 : Nat) : Int), (j : Int)))))
    (hend : ∀ i : Nat, i ≤ m → f ((i : Int), (i : Int)) = some (.inr (i : Int))) :
    ∀ (d i j n : Nat), j - i ≤ d → i ≤ j → j ≤ m → d < n → (i = 0 ∨ p (i - 1) = false) → (j = m ∨ p j = true) →
      ∃ k, i ≤ k ∧ k ≤ j ∧ iter n f ((i : Int), (j : Int)) = some (k : Int) ∧ (k = 0 ∨ p (k - 1) = false) ∧ (k = m ∨ p k = true)
  | d, i, j, n, h1, h2, h3, h4, h5, h6 => by
    obtain ⟨n, rfl⟩ : ∃ q, n = q + 1 := ⟨n - 1, by omega⟩
    by_cases hij : i = j
    · subst hij
      exact ⟨i, Nat.le_refl _, Nat.le_refl _, by rw [iter, hend i h3]; rfl, h5, h6⟩
    · obtain ⟨d, rfl⟩ : ∃ q, d = q + 1 := ⟨d - 1, by omega⟩
      rw [iter, hstep i j (by omega) h3, Option.bind_some]
      by_cases hp : p ((i + j) / 2) = true
      · rw [if_pos hp]
        obtain ⟨k, k1, k2, k3, k4⟩ := bs_iter hstep hend d i ((i + j) / 2) n (by omega) (by omega) (by omega) (by omega) h5 (.inr hp)
        exact ⟨k, k1, by omega, k3, k4⟩
      · rw [if_neg hp]
        obtain ⟨k, k1, k2, k3, k4⟩ := bs_iter hstep hend d ((i + j) / 2 + 1) j n (by omega) (by omega) (by omega) (by omega) (.inr (by rw [Nat.add_sub_cancel]; simpa using hp)) h6
        exact ⟨k, by omega, k2, k3, k4⟩
theorem bs_mono {p : Nat → Bool} {m k : Nat} (hmono : ∀ i j, i ≤ j → j < m → p i = true → p j = true) (hk : k ≤ m) (h1 : k = 0 ∨ p (k - 1) = false) (h2 : k = m ∨ p k = true) : (∀ i, i < k → p i = false) ∧ (∀ i, k ≤ i → i < m → p i = true) := by
  refine ⟨fun i hi => ?_, fun i hi him => ?_⟩
  · rcases h1 with h1 | h1
    · omega
    · cases hp : p i with
      | false => rfl
      | true => rw [hmono i (k - 1) (by omega) (by omega) hp] at h1; cases h1
  · rcases h2 with h2 | h2
    · omega
    · exact hmono k i hi him h2
theorem shr_half {i j : Nat} (h : i + j ≤ 1000000000) : shrM .u64 (IntKind.u64.wrap (IntKind.i64.wrap ((i : Int) + (j : Int)))) (1 : Int) = some ((((i + j) / 2 : Nat)) : Int) := by
  rw [w64 (by omega) (by omega)]
  have : IntKind.u64.wrap ((i : Int) + (j : Int)) = (i : Int) + j := by simp [IntKind.wrap, IntKind.signed, IntKind.bits]; omega
  rw [this]
  unfold shrM
  rw [if_neg (by decide), show min (1 : Int).toNat IntKind.u64.bits = 1 by decide]
  have e : ((i : Int) + j).fdiv (2 ^ 1) = ((i : Int) + j) / 2 := by rw [show (2 : Int) ^ 1 = 2 from rfl, Int.fdiv_eq_ediv_of_nonneg _ (by decide)]
  rw [e]
  congr 1
theorem cut_at {α : Type} {l : List α} {q : α → Prop} {k : Nat} (hk : k ≤ l.length) (h1 : ∀ i (h : i < l.length), i < k → q l[i]) (h2 : ∀ i (h : i < l.length), k ≤ i → ¬ q l[i]) : ∃ a b, l = a ++ b ∧ a.length = k ∧ (∀ y ∈ a, q y) ∧ ∀ y ∈ b, ¬ q y := by
  refine ⟨l.take k, l.drop k, (List.take_append_drop k l).symm, by simp; omega, fun y hy => ?_, fun y hy => ?_⟩
  · obtain ⟨i, hi, rfl⟩ := List.getElem_of_mem hy
    rw [List.length_take] at hi
    rw [List.getElem_take]
    exact h1 i (by omega) (by omega)
  · obtain ⟨i, hi, rfl⟩ := List.getElem_of_mem hy
    rw [List.length_drop] at hi
    rw [List.getElem_drop]
    exact h2 (k + i) (by omega) (by omega)
def hdK (b : List SBlock) (s : List UInt8) : Bool := match b with | [] => false | c :: _ => decide (c.fKey = s)
theorem cmp_s {n : Nat} {a b : List UInt8} : m_cmp_Compare_string n a b = some (if a < b then -1 else if a = b then 0 else 1) := by
  unfold m_cmp_Compare_string m_cmp_isNaN_string
  simp only [decide_true, Bool.not_true, Option.bind_some, Bool.false_eq_true, if_false, ltS_str, decide_eq_true_eq]
  by_cases h1 : a < b
  · simp [h1]
  · by_cases h2 : a = b
    · subst h2; simp [List.lt_irrefl]
    · simp [h1, h2]
theorem find_ok {t : List SBlock} {s : List UInt8} (hl : t.length ≤ 1000000) (ha : AscS (t.map (·.fKey))) : ∃ a b, t = a ++ b ∧ (∀ c ∈ a, c.fKey < s) ∧ (∀ c ∈ b, ¬ c.fKey < s) ∧ m_block_find FU t s = some ((a.length : Int), hdK b s) := by
  let p : Nat → Bool := fun i => decide (¬ (bd t i).fKey < s)
  have hp : ∀ i, p i = decide (¬ (bd t i).fKey < s) := fun _ => rfl
  have hf1 : ∀ b : SBlock, m_block_find_1 FU b s = some (if b.fKey < s then -1 else if b.fKey = s then 0 else 1) := fun b => by unfold m_block_find_1; rw [cmp_s]; rfl
  obtain ⟨k, _, k2, k3, k4, k5⟩ := bs_iter (f := fun s' => m_slices_BinarySearchFunc_block_Table_block_Block_string_L1 FU t s s'.1 s'.2) (m := t.length) (p := p) (fun i j hij hj => by
      have hmid : (i + j) / 2 < t.length := by omega
      simp only [m_slices_BinarySearchFunc_block_Table_block_Block_string_L1]
      rw [if_pos (decide_eq_true (by omega)), shr_half (by omega), Option.bind_some, w64 (x := (((i + j) / 2 : Nat) : Int)) (by omega) (by omega), ixL hmid, Option.bind_some, hf1, Option.bind_some, hp, bd_eq hmid]
      by_cases hc : t[(i + j) / 2].fKey < s
      · rw [if_pos hc, if_pos (by decide), if_neg (by simpa using hc), w64 (by omega) (by omega)]; rfl
      · rw [if_neg hc, if_neg (by split <;> decide), if_pos (by simpa using hc)])
    (fun i hi => by simp only [m_slices_BinarySearchFunc_block_Table_block_Block_string_L1]; simp) t.length 0 t.length FU (by omega) (by omega) (Nat.le_refl _) (by simp only [FU]; omega) (.inl rfl) (.inl rfl)
  obtain ⟨q1, q2⟩ := bs_mono (p := p) (fun i j hij hj hi => by
    rw [hp, bd_eq (by omega), decide_eq_true_eq] at hi
    rw [hp, bd_eq hj, decide_eq_true_eq]
    by_cases he : i = j
    · subst he; exact hi
    · intro hc
      have := List.pairwise_iff_getElem.1 ha i j (by simp; omega) (by simpa using hj) (by omega)
      simp only [List.getElem_map] at this
      exact hi (List.lt_trans this hc)) k2 k4 k5
  obtain ⟨a, b, e, hk, h1, h2⟩ := cut_at (l := t) (q := fun c => c.fKey < s) k2 (fun i h hi => by have := q1 i hi; rw [hp, bd_eq h] at this; simpa using this) (fun i h hi => by have := q2 i hi h; rw [hp, bd_eq h] at this; simpa using this)
  refine ⟨a, b, e, h1, h2, ?_⟩
  unfold m_block_find m_slices_BinarySearchFunc_block_Table_block_Block_string
  rw [show ((0 : Int), (t.length : Int)) = (((0 : Nat) : Int), (t.length : Int)) from rfl, k3, Option.bind_some, e, ← hk]
  cases b with
  | nil => simp [hdK]
  | cons c b' =>
    have hlt : (a.length : Int) < ((a ++ c :: b').length : Int) := by simp; omega
    rw [if_pos (decide_eq_true hlt), ixL (by simp), Option.bind_some, if_pos (decide_eq_true hlt), hf1, Option.bind_some, Option.bind_some, decide_eq_true hlt]
    simp only [List.getElem_append_right (Nat.le_refl _), Nat.sub_self, List.getElem_cons_zero, Bool.true_and, hdK]
    rw [if_neg (h2 c (by simp))]
    congr 2
    by_cases h3 : c.fKey = s <;> simp [h3]
theorem bsI_ok {l : List Int} {x : Int} (hl : l.length ≤ 1000000) (ha : AscI l) : ∃ a b r, l = a ++ b ∧ (∀ y ∈ a, y < x) ∧ (∀ y ∈ b, ¬ y < x) ∧ m_slices_BinarySearch_int_int FU l x = some ((a.length : Int), r) := by
  let p : Nat → Bool := fun i => decide (¬ l.getD i 0 < x)
  have hp : ∀ i, p i = decide (¬ l.getD i 0 < x) := fun _ => rfl
  have hg : ∀ i (h : i < l.length), l.getD i 0 = l[i] := fun i h => by simp [h]
  have hless : ∀ a b : Int, m_cmp_Less_int FU a b = some (decide (a < b)) := fun a b => by
    unfold m_cmp_Less_int m_cmp_isNaN_int; simp
  obtain ⟨k, _, k2, k3, k4, k5⟩ := bs_iter (f := fun s' => m_slices_BinarySearch_int_int_L1 FU l x s'.1 s'.2) (m := l.length) (p := p) (fun i j hij hj => by
      have hmid : (i + j) / 2 < l.length := by omega
      simp only [m_slices_BinarySearch_int_int_L1]
      rw [if_pos (decide_eq_true (by omega)), shr_half (by omega), Option.bind_some, w64 (x := (((i + j) / 2 : Nat) : Int)) (by omega) (by omega), ixL hmid, Option.bind_some, hless, Option.bind_some, hp, hg _ hmid]
      by_cases hc : l[(i + j) / 2] < x
      · rw [if_pos (by simpa using hc), if_neg (by simpa using hc), w64 (by omega) (by omega)]; rfl
      · rw [if_neg (by simpa using hc), if_pos (by simpa using hc)])
    (fun i hi => by simp only [m_slices_BinarySearch_int_int_L1]; simp) l.length 0 l.length FU (by omega) (by omega) (Nat.le_refl _) (by simp only [FU]; omega) (.inl rfl) (.inl rfl)
  obtain ⟨q1, q2⟩ := bs_mono (p := p) (fun i j hij hj hi => by
    rw [hp, hg i (by omega), decide_eq_true_eq] at hi
    rw [hp, hg j hj, decide_eq_true_eq]
    by_cases he : i = j
    · subst he; exact hi
    · have := List.pairwise_iff_getElem.1 ha i j (by omega) hj (by omega)
      omega) k2 k4 k5
  obtain ⟨a, b, e, hk, h1, h2⟩ := cut_at (l := l) (q := fun c => c < x) k2 (fun i h hi => by have := q1 i hi; rw [hp, hg i h] at this; simpa using this) (fun i h hi => by have := q2 i hi h; rw [hp, hg i h] at this; simpa using this)
  unfold m_slices_BinarySearch_int_int
  rw [show ((0 : Int), (l.length : Int)) = (((0 : Nat) : Int), (l.length : Int)) from rfl, k3, Option.bind_some]
  refine ⟨a, b, ?_⟩
  have : ∃ r, ((if (decide ((k : Int) < (l.length : Int))) = true then ix l (k : Int) else some default)).bind (fun v4 =>
      ((if ((decide ((k : Int) < (l.length : Int))) && (!(decide (v4 = x)))) = true then ix l (k : Int) else some default)).bind fun v5 =>
      ((if ((decide ((k : Int) < (l.length : Int))) && (!(decide (v4 = x)))) = true then m_slices_isNaN_int FU v5 else some default)).bind fun v6 =>
      ((if (((decide ((k : Int) < (l.length : Int))) && (!(decide (v4 = x)))) && v6) = true then m_slices_isNaN_int FU x else some default)).bind fun v7 =>
      some ((k : Int), ((decide ((k : Int) < (l.length : Int))) && ((decide (v4 = x)) || (v6 && v7))))) = some ((k : Int), r) := by
    unfold m_slices_isNaN_int
    by_cases hlt : k < l.length
    · have hlt2 : (k : Int) < (l.length : Int) := by omega
      rw [if_pos (decide_eq_true hlt2), ixL hlt, Option.bind_some]
      by_cases hx : l[k] = x
      · exact ⟨true, by simp [hx, hlt]⟩
      · exact ⟨false, by simp [hx, hlt]⟩
    · exact ⟨false, by simp [hlt]⟩
  obtain ⟨r, hr⟩ := this
  exact ⟨r, e, h1, h2, by rw [hk]; exact hr⟩
def insI : List Int → Int → List Int
  | [], x => [x]
  | y :: l, x => if y < x then y :: insI l x else x :: y :: l
theorem insI_split {x : Int} : ∀ {a b : List Int}, (∀ y ∈ a, y < x) → (∀ y b', b = y :: b' → ¬ y < x) → insI (a ++ b) x = a ++ x :: b
  | [], [], _, _ => rfl
  | [], y :: b, _, hb => by rw [List.nil_append, insI, if_neg (hb y b rfl)]; rfl
  | z :: a, b, ha, hb => by rw [List.cons_append, insI, if_pos (ha z (by simp)), insI_split (fun y hy => ha y (by simp [hy])) hb]; rfl
theorem insI_mem {x y : Int} : ∀ {l : List Int}, y ∈ insI l x ↔ y = x ∨ y ∈ l
  | [] => by simp [insI]
  | z :: l => by
    rw [insI]
    split
    · rw [List.mem_cons, insI_mem, List.mem_cons]; exact or_left_comm
    · simp
theorem insI_len {x : Int} : ∀ {l : List Int}, (insI l x).length = l.length + 1
  | [] => rfl
  | z :: l => by
    rw [insI]
    split
    · simp [insI_len (l := l)]
    · rfl
theorem insI_asc {x : Int} : ∀ {l : List Int}, AscI l → x ∉ l → AscI (insI l x)
  | [], _, _ => by simp [insI]
  | z :: l, h, hx => by
    obtain ⟨h1, h2⟩ := List.pairwise_cons.1 h
    simp only [List.mem_cons, not_or] at hx
    rw [insI]
    split
    · refine List.pairwise_cons.2 ⟨fun y hy => ?_, insI_asc h2 hx.2⟩
      rcases insI_mem.1 hy with rfl | hy
      · assumption
      · exact h1 y hy
    · refine List.pairwise_cons.2 ⟨fun y hy => ?_, h⟩
      rcases List.mem_cons.1 hy with rfl | hy
      · omega
      · have := h1 y hy; omega
def ins1 : List SBlock → List UInt8 → Int → List SBlock
  | [], s, x => [⟨s, [x]⟩]
  | b :: t, s, x => if b.fKey < s then b :: ins1 t s x else if b.fKey = s then ⟨s, insI b.fIDs x⟩ :: t else ⟨s, [x]⟩ :: b :: t
theorem ins1_found {s : List UInt8} {l : List Int} {x : Int} {b : List SBlock} : ∀ {a : List SBlock}, (∀ c ∈ a, c.fKey < s) → ins1 (a ++ ⟨s, l⟩ :: b) s x = a ++ ⟨s, insI l x⟩ :: b
  | [], _ => by rw [List.nil_append, ins1, if_neg (List.lt_irrefl _), if_pos rfl]; rfl
  | c :: a, h => by rw [List.cons_append, ins1, if_pos (h c (by simp)), ins1_found (fun y hy => h y (by simp [hy]))]; rfl
theorem ins1_new {s : List UInt8} {x : Int} : ∀ {a b : List SBlock}, (∀ c ∈ a, c.fKey < s) → (∀ c b', b = c :: b' → ¬ c.fKey < s ∧ c.fKey ≠ s) → ins1 (a ++ b) s x = a ++ ⟨s, [x]⟩ :: b
  | [], [], _, _ => rfl
  | [], c :: b, _, hb => by rw [List.nil_append, ins1, if_neg (hb c b rfl).1, if_neg (hb c b rfl).2]; rfl
  | c :: a, b, h, hb => by rw [List.cons_append, ins1, if_pos (h c (by simp)), ins1_new (fun y hy => h y (by simp [hy])) hb]; rfl
theorem ins1_keys {s : List UInt8} {x : Int} : ∀ {t : List SBlock}, (ins1 t s x).map (·.fKey) = insA (t.map (·.fKey)) s
  | [] => rfl
  | c :: t => by
    rw [ins1, List.map_cons, insA]
    split
    · rw [List.map_cons, ins1_keys]
    · split
      · rename_i h; rw [List.map_cons, h]
      · rfl
def mem (t : List SBlock) (s : List UInt8) (x : Int) : Prop := ∃ b ∈ t, b.fKey = s ∧ x ∈ b.fIDs
theorem mem_cons {b : SBlock} {t : List SBlock} {s : List UInt8} {x : Int} : mem (b :: t) s x ↔ (b.fKey = s ∧ x ∈ b.fIDs) ∨ mem t s x := by simp [mem]
theorem mem_nil {s : List UInt8} {x : Int} : ¬ mem [] s x := by simp [mem]
theorem mem_ins1 {s q : List UInt8} {x y : Int} : ∀ {t : List SBlock}, mem (ins1 t s x) q y ↔ mem t q y ∨ (q = s ∧ y = x)
  | [] => by rw [ins1, mem_cons]; simp [mem_nil, eq_comm]
  | c :: t => by
    rw [ins1]
    split
    · rw [mem_cons, mem_ins1, mem_cons, or_assoc]
    · split
      · rename_i h
        rw [mem_cons, mem_cons]
        simp only [insI_mem, h]
        constructor
        · rintro (⟨h1, rfl | h2⟩ | h1)
          · exact .inr ⟨h1.symm, rfl⟩
          · exact .inl (.inl ⟨h1, h2⟩)
          · exact .inl (.inr h1)
        · rintro ((⟨h1, h2⟩ | h1) | ⟨h1, h2⟩)
          · exact .inl ⟨h1, .inr h2⟩
          · exact .inr h1
          · exact .inl ⟨h1.symm, .inl h2⟩
      · rw [mem_cons]
        simp only [List.mem_singleton]
        constructor
        · rintro (⟨h1, h2⟩ | h1)
          · exact .inr ⟨h1.symm, h2⟩
          · exact .inl h1
        · rintro (h1 | ⟨h1, h2⟩)
          · exact .inr h1
          · exact .inl ⟨h1.symm, h2⟩
theorem ins1_blocks {s : List UInt8} {x : Int} {Q : SBlock → Prop} (hn : Q ⟨s, [x]⟩) : ∀ {t : List SBlock}, (∀ b ∈ t, b.fKey = s → Q b → Q ⟨s, insI b.fIDs x⟩) → (∀ b ∈ t, Q b) → ∀ b ∈ ins1 t s x, Q b
  | [], _, _ => by simp [ins1, hn]
  | c :: t, hs, h => by
    rw [ins1]
    split
    · intro b hb
      rcases List.mem_cons.1 hb with rfl | hb
      · exact h _ (by simp)
      · exact ins1_blocks hn (fun b hb => hs b (by simp [hb])) (fun b hb => h b (by simp [hb])) b hb
    · split
      · rename_i h2
        intro b hb
        rcases List.mem_cons.1 hb with rfl | hb
        · exact hs c (by simp) h2 (h c (by simp))
        · exact h b (by simp [hb])
      · intro b hb
        rcases List.mem_cons.1 hb with rfl | hb
        · exact hn
        · exact h b hb
theorem VT.ins1 {t : List SBlock} {s : List UInt8} {x : Int} (h : VT t) (hs : s ≠ []) (hx : 1 ≤ x ∧ x ≤ 1000000000) (hm : ¬ mem t s x) : VT (ins1 t s x) where
  b := ins1_blocks (Q := VB) ⟨hs, by simp, by simp, by simpa using hx⟩ (fun b hb hk q => ⟨hs, by
      intro e
      have := congrArg List.length e
      rw [insI_len] at this; simp at this, insI_asc q.a (fun hc => hm ⟨b, hb, hk, hc⟩), fun y hy => by
      rcases insI_mem.1 hy with rfl | hy
      · exact hx
      · exact q.r y hy⟩) h.b
  a := by rw [ins1_keys]; exact insA_asc h.a
structure TBn (t : List SBlock) (k : Nat) : Prop where
  n : t.length ≤ k
  i : ∀ b ∈ t, b.fIDs.length ≤ k
theorem TBn.tb {t : List SBlock} {k : Nat} (h : TBn t k) (hk : k ≤ 1000000) : TB t := ⟨Nat.le_trans h.n hk, fun b hb => Nat.le_trans (h.i b hb) hk⟩
theorem TBn.ins1 {t : List SBlock} {k : Nat} {s : List UInt8} {x : Int} (h : TBn t k) : TBn (ins1 t s x) (k + 1) where
  n := by
    have := congrArg List.length (ins1_keys (s := s) (x := x) (t := t))
    have h2 := insA_len (s := s) (l := t.map (·.fKey))
    rw [List.length_map] at this h2
    have := h.n; omega
  i := ins1_blocks (Q := fun b => b.fIDs.length ≤ k + 1) (by simp) (fun b hb _ _ => by
      show (insI b.fIDs x).length ≤ k + 1
      rw [insI_len]; have := h.i b hb; omega) (fun b hb => Nat.le_succ_of_le (h.i b hb))
def putT (t : List SBlock) (ks : List (List UInt8)) (x : Int) : List SBlock := ks.foldl (fun t s => ins1 t s x) t
theorem putT_snoc {t : List SBlock} {ks : List (List UInt8)} {s : List UInt8} {x : Int} : putT t (ks ++ [s]) x = ins1 (putT t ks x) s x := by simp [putT]
theorem mem_putT {q : List UInt8} {x y : Int} : ∀ {ks : List (List UInt8)} {t : List SBlock}, mem (putT t ks x) q y ↔ mem t q y ∨ (q ∈ ks ∧ y = x)
  | [], t => by simp [putT]
  | s :: ks, t => by
    have ih := mem_putT (q := q) (x := x) (y := y) (ks := ks) (t := ins1 t s x)
    show mem (putT (ins1 t s x) ks x) q y ↔ _
    rw [ih, mem_ins1, List.mem_cons, or_assoc, or_and_right]
theorem VT.putT {x : Int} (hx : 1 ≤ x ∧ x ≤ 1000000000) : ∀ {ks : List (List UInt8)} {t : List SBlock}, VT t → (∀ s ∈ ks, s ≠ [] ∧ ¬ mem t s x) → ks.Nodup → VT (putT t ks x)
  | [], _, h, _, _ => h
  | s :: ks, t, h, hs, hn => by
    rw [List.nodup_cons] at hn
    have h1 := hs s (by simp)
    refine VT.putT hx (ks := ks) (t := Ab.ins1 t s x) (h.ins1 h1.1 hx h1.2) (fun q hq => ⟨(hs q (by simp [hq])).1, fun hm => ?_⟩) hn.2
    rcases mem_ins1.1 hm with hm | ⟨rfl, _⟩
    · exact (hs q (by simp [hq])).2 hm
    · exact hn.1 hq
theorem TBn.putT {x : Int} : ∀ {ks : List (List UInt8)} {t : List SBlock} {k : Nat}, TBn t k → TBn (putT t ks x) (k + ks.length)
  | [], _, _, h => h
  | s :: ks, t, k, h => by
    have := TBn.putT (x := x) (ks := ks) (h.ins1 (s := s) (x := x))
    rw [show k + (s :: ks).length = k + 1 + ks.length by simp; omega]
    exact this
end
section
/- Both ways to put a record into a table, in plain Lean. Conditions: none. -/
open Go
theorem AscS.nd {l : List (List UInt8)} (h : AscS l) : l.Nodup := asc_nodup (lt := fun a b : List UInt8 => a < b) (fun _ => List.lt_irrefl _) h
theorem nd_take {α : Type} {l : List α} {j : Nat} (h : l.Nodup) (hj : j < l.length) : l[j] ∉ l.take j := by
  intro hm
  obtain ⟨i, hi, e⟩ := List.getElem_of_mem hm
  rw [List.length_take] at hi
  rw [List.getElem_take] at e
  have := List.pairwise_iff_getElem.1 h i j (by omega) hj (by omega)
  exact this e
theorem put_step {f : SFeatures} {ks : List (List UInt8)} {t : List SBlock} {j : Nat} (hj : j < ks.length) (hk : ks.length ≤ 1000) (h : VT t) (hb : TBn t 100000) (hm : ¬ mem t ks[j] f.fID) :
    m_block_put_L1 FU f ks (j : Int) t = some (.inl (((j + 1 : Nat) : Int), ins1 t ks[j] f.fID)) := by
  unfold m_block_put_L1
  obtain ⟨a, b, rfl, h1, h2, h3⟩ := find_ok (s := ks[j]) (t := t) (by have := hb.n; omega) h.a
  have hlen := hb.n
  rw [List.length_append] at hlen
  rw [if_pos (decide_eq_true (by omega)), ixL hj, Option.bind_some, h3, Option.bind_some, wadd1 hj (by simp only [ML]; omega)]
  generalize ks[j] = s at *
  have fin : ∀ (t9 : List SBlock) (l : List Int) (b' : List SBlock), t9 = a ++ ⟨s, l⟩ :: b' → AscI l → l.length ≤ 100000 → (some t9 : Option (List SBlock)).bind (fun t9 =>
      (ix t9 (a.length : Int)).bind fun v10 =>
      (m_slices_BinarySearch_int_int FU v10.fIDs f.fID).bind fun v11 =>
      (ix t9 (a.length : Int)).bind fun v12 =>
      (m_slices_Insert_int_int FU v12.fIDs v11.1 ([f.fID] : List Int)).bind fun v13 =>
      (some (.inl (((j + 1 : Nat) : Int), (t9.set (a.length : Int).toNat (⟨v12.fKey, v13⟩ : SBlock)))) : Option ((Int × List SBlock) ⊕ List SBlock))) = some (.inl (((j + 1 : Nat) : Int), a ++ ⟨s, insI l f.fID⟩ :: b')) := by
    intro t9 l b' e hl hll
    subst e
    obtain ⟨a', b2, r, e, g1, g2, g3⟩ := bsI_ok (l := l) (x := f.fID) (by omega) hl
    have hx : ix (a ++ ⟨s, l⟩ :: b') (a.length : Int) = some (⟨s, l⟩ : SBlock) := by rw [ixL (by simp)]; simp
    rw [Option.bind_some, hx, Option.bind_some, g3, Option.bind_some, Option.bind_some]
    unfold m_slices_Insert_int_int
    subst e
    rw [List.length_append] at hll
    rw [insL_eq (by simp) (by simp; omega) (by simp; omega), Option.bind_some, List.take_left', List.drop_left', insI_split g1 (fun y b' e => g2 y (by rw [e]; simp)), Int.toNat_natCast]
    · congr 3
      rw [List.set_append_right _ _ (Nat.le_refl _)]; simp
    · rfl
    · rfl
  cases b with
  | nil =>
    rw [show hdK [] s = false from rfl]
    dsimp only
    rw [Bool.not_false, if_pos rfl, insL_eq (by simp) (by simp; omega) (by simp; omega), Option.bind_some]
    have := fin ((a ++ []).take a.length ++ ⟨s, []⟩ :: (a ++ []).drop a.length) [] [] (by simp) .nil (by simp)
    rw [this, ins1_new h1 (fun c b' e => by cases e)]; rfl
  | cons c b' =>
    by_cases hc : c.fKey = s
    · rw [show hdK (c :: b') s = true by simp [hdK, hc], if_neg (by simp)]
      have hcm : c ∈ a ++ c :: b' := by simp
      have := fin (a ++ c :: b') c.fIDs b' (by rw [← hc]) (h.b c hcm).a (hb.i c hcm)
      rw [this]
      rw [show (a ++ c :: b') = a ++ ⟨s, c.fIDs⟩ :: b' by rw [← hc], ins1_found h1]
    · rw [show hdK (c :: b') s = false by simp [hdK, hc]]
      dsimp only
      rw [Bool.not_false, if_pos rfl, insL_eq (by simp) (by simp at hlen ⊢; omega) (by simp at hlen ⊢; omega), Option.bind_some]
      have := fin ((a ++ c :: b').take a.length ++ ⟨s, []⟩ :: (a ++ c :: b').drop a.length) [] (c :: b') (by simp) .nil (by simp)
      rw [this, ins1_new h1 (fun c' b2 e => by injection e with e1 e2; subst e1; exact ⟨h2 _ (by simp), hc⟩)]; rfl
theorem bput_ok {f : SFeatures} {t : List SBlock} (hf : FOk f) (hv : fv f = true) (h : VT t) (hb : TBn t 50000) (hm : ∀ s ∈ keys f, ¬ mem t s f.fID) : m_block_put FU t f = some (putT t (keys f) f.fID) := by
  have hk := keys_len f
  have q := fv_p hv
  have hnd := (keys_asc f).nd
  unfold m_block_put
  have h0 : m_block_Keys FU (⟨f.fID, f.fTitle, f.fAuthor, f.fYears, f.fIsbns, f.fLangs, f.fPublisher, f.fEdition⟩ : SFeatures) = some (keys f) := keys_ok hf
  rw [h0, Option.bind_some]
  have : iter FU (fun s => m_block_put_L1 FU f (keys f) s.1 s.2) ((0 : Int), t) = some (putT t (keys f) f.fID) := by
    refine iter_to (f := fun s => m_block_put_L1 FU f (keys f) s.1 s.2) (fun j => ((j : Int), putT t ((keys f).take j) f.fID)) (keys f).length FU _ (fun j hj => ?_) ?_ (by simp only [FU]; omega) rfl
    · have hb2 := hb.putT (x := f.fID) (ks := (keys f).take j)
      have hkl : ((keys f).take j).length ≤ 42 := by rw [List.length_take]; omega
      have hB : TBn (putT t ((keys f).take j) f.fID) 100000 := ⟨by have := hb2.n; omega, fun b hb => by have := hb2.i b hb; omega⟩
      rw [take_snocL hj, putT_snoc]
      refine put_step hj (by omega) (h.putT q.d (fun s hs => ⟨keys_ne (List.mem_of_mem_take hs), hm s (List.mem_of_mem_take hs)⟩) (hnd.sublist (List.take_sublist j _))) hB (fun hc => ?_)
      rcases mem_putT.1 hc with hc | hc
      · exact hm _ (List.getElem_mem hj) hc
      · exact nd_take hnd hj hc.1
    · simp only [m_block_put_L1]; rw [if_neg (by simp), List.take_length]
  rw [this]; rfl
theorem not_mem {t : List SBlock} {x : Int} (h : hasT t x = false) (s : List UInt8) : ¬ mem t s x := by
  rintro ⟨b, hb, _, hx⟩
  unfold hasT at h
  rw [List.any_eq_false] at h
  exact h b hb (by simpa using hx)
theorem hasT_iff {t : List SBlock} {x : Int} : hasT t x = true ↔ ∃ s, mem t s x := by
  unfold hasT mem
  rw [List.any_eq_true]
  constructor
  · rintro ⟨b, hb, h⟩; exact ⟨b.fKey, b, hb, rfl, by simpa using h⟩
  · rintro ⟨s, b, hb, _, h⟩; exact ⟨b, hb, by simpa using h⟩
def putR (t : List SBlock) (f : SFeatures) : List SBlock × Int :=
  if (!tabB t || !fv f) = true then ([], 1) else if hasT t f.fID = true then ([], 10) else (putT t (keys f) f.fID, 0)
theorem add_ok {l : List Int} {x : Int} (hl : l.length ≤ 100000000) : m_ref30_add FU l x = some (insI l x) := by
  obtain ⟨a, b, rfl, ha, hb⟩ := split_lt (fun y => decide (y < x)) l
  have hq : iter FU (fun t => m_ref30_add_L1 FU (a ++ b) x t) (0 : Int) = some (a.length : Int) := by
    refine scan_to (p := fun y => decide (y < x)) rfl ha hb (by omega) (fun j hj => ?_) ?_
    · unfold m_ref30_add_L1
      rw [if_pos (decide_eq_true (by omega)), ixL hj, Option.bind_some, decide_eq_true (by omega : (j : Int) < ((a ++ b).length : Int)), Bool.true_and, wadd1 hj (by simp only [ML]; omega)]
      split <;> rfl
    · unfold m_ref30_add_L1
      simp
  rw [insI_split (fun y hy => by simpa using ha y hy) (fun y b' e => by simpa using hb y b' e)]
  unfold m_ref30_add
  rw [List.length_append] at hl
  rw [hq, Option.bind_some, slc_split.1, Option.bind_some, app_eq (by simp; omega) (by simp; omega), Option.bind_some, app_eq (by simp; omega) (by simp; omega), Option.bind_some, slc_split.2, Option.bind_some, app_eq (by simp; omega) (by simp; omega)]
  simp
theorem ins1_snocb {s : List UInt8} {x : Int} {b : SBlock} (h : s < b.fKey) : ∀ {t : List SBlock}, ins1 (t ++ [b]) s x = ins1 t s x ++ [b]
  | [] => by
    show ins1 [b] s x = [⟨s, [x]⟩, b]
    rw [ins1, if_neg (fun h2 => ltT h h2), if_neg (fun e => by rw [e] at h; exact List.lt_irrefl _ h)]
  | c :: t => by
    rw [List.cons_append, ins1, ins1]
    split
    · rw [ins1_snocb h]; rfl
    · split <;> rfl
theorem putT_snocb {x : Int} {b : SBlock} : ∀ {ks : List (List UInt8)} {t : List SBlock}, (∀ s ∈ ks, s < b.fKey) → putT (t ++ [b]) ks x = putT t ks x ++ [b]
  | [], _, _ => rfl
  | s :: ks, t, h => by
    show putT (ins1 (t ++ [b]) s x) ks x = putT (ins1 t s x) ks x ++ [b]
    rw [ins1_snocb (h s (by simp)), putT_snocb (fun s hs => h s (by simp [hs]))]
theorem putT_key {x : Int} {c : SBlock} : ∀ {ks : List (List UInt8)} {t : List SBlock}, c ∈ putT t ks x → c.fKey ∈ t.map (·.fKey) ∨ c.fKey ∈ ks
  | [], _, h => .inl (List.mem_map.2 ⟨c, h, rfl⟩)
  | s :: ks, t, h => by
    rcases putT_key (ks := ks) (t := ins1 t s x) h with h | h
    · rw [ins1_keys, insA_mem] at h
      rcases h with h | h
      · exact .inr (by simp [h])
      · exact .inl h
    · exact .inr (by simp [h])
structure Mrg (t : List SBlock) (ks : List (List UInt8)) (i k : Nat) : Prop where
  kk : k ≤ ks.length
  ii : i ≤ t.length
  lo : ∀ j (_hj : j < k) (hj2 : j < ks.length) i' (_hi : i ≤ i') (hi2 : i' < t.length), ks[j] < t[i'].fKey
  hi : ∀ j (_hj : k ≤ j) (hj2 : j < ks.length) i' (_hi : i' < i) (hi2 : i' < t.length), t[i'].fKey < ks[j]
theorem asc_at {ks : List (List UInt8)} (h : AscS ks) {i j : Nat} (hij : i < j) (hj : j < ks.length) : ks[i] < ks[j] := List.pairwise_iff_getElem.1 h i j (by omega) hj hij
theorem key_at {t : List SBlock} (h : AscS (t.map (·.fKey))) {i j : Nat} (hij : i < j) (hj : j < t.length) : t[i].fKey < t[j].fKey := by
  have := List.pairwise_iff_getElem.1 h i j (by simp; omega) (by simpa using hj) hij
  simpa using this
theorem Mrg.keys {t : List SBlock} {ks : List (List UInt8)} {i k : Nat} {x : Int} (h : Mrg t ks i k) (ha : AscS ks) (hk : k < ks.length) : ∀ c ∈ putT (t.take i) (ks.take k) x, c.fKey < ks[k] := by
  intro c hc
  rcases putT_key hc with hc | hc
  · obtain ⟨b, hb, e⟩ := List.mem_map.1 hc
    obtain ⟨i', hi', rfl⟩ := List.getElem_of_mem hb
    rw [List.length_take] at hi'
    rw [List.getElem_take] at e
    rw [← e]
    exact h.hi k (Nat.le_refl _) hk i' (by omega) (by omega)
  · obtain ⟨j, hj, e⟩ := List.getElem_of_mem hc
    rw [List.length_take] at hj
    rw [List.getElem_take] at e
    rw [← e]
    exact asc_at ha (by omega) hk
theorem Mrg.next {t : List SBlock} {ks : List (List UInt8)} {i k : Nat} {x : Int} (h : Mrg t ks i k) (ha : AscS ks) (hk : k < ks.length) : putT (t.take i) (ks.take k) x ++ [⟨ks[k], [x]⟩] = putT (t.take i) (ks.take (k + 1)) x := by
  rw [take_snocL hk, putT_snoc]
  have := ins1_new (s := ks[k]) (x := x) (a := putT (t.take i) (ks.take k) x) (b := []) (h.keys ha hk) (fun c b' e => by cases e)
  rw [List.append_nil] at this
  exact this.symm
theorem Mrg.step {t : List SBlock} {ks : List (List UInt8)} {i k : Nat} (h : Mrg t ks i k) (ht : AscS (t.map (·.fKey))) (hk : k < ks.length) (hlt : ∀ (hi : i < t.length), ks[k] < t[i].fKey) : Mrg t ks i (k + 1) where
  kk := hk
  ii := h.ii
  lo j hj hj2 i' hi hi2 := by
    by_cases hjk : j < k
    · exact h.lo j hjk hj2 i' hi hi2
    · obtain rfl : j = k := by omega
      have h1 := hlt (by omega)
      by_cases he : i = i'
      · subst he; exact h1
      · exact List.lt_trans h1 (key_at ht (by omega) hi2)
  hi j hj hj2 i' hi hi2 := h.hi j (by omega) hj2 i' hi hi2
theorem Mrg.skip {t : List SBlock} {ks : List (List UInt8)} {i k : Nat} (h : Mrg t ks i k) (ha : AscS ks) (hi : i < t.length) (hge : ∀ (hk : k < ks.length), t[i].fKey < ks[k]) : Mrg t ks (i + 1) k where
  kk := h.kk
  ii := hi
  lo j hj hj2 i' hi hi2 := h.lo j hj hj2 i' (by omega) hi2
  hi j hj hj2 i' hi' hi2 := by
    by_cases hii : i' < i
    · exact h.hi j hj hj2 i' hii hi2
    · obtain rfl : i' = i := by omega
      have h1 := hge (by omega)
      by_cases he : k = j
      · subst he; exact h1
      · exact List.lt_trans h1 (asc_at ha (by omega) hj2)
theorem Mrg.both {t : List SBlock} {ks : List (List UInt8)} {i k : Nat} (h : Mrg t ks i k) (ht : AscS (t.map (·.fKey))) (ha : AscS ks) (hi : i < t.length) (hk : k < ks.length) (he : ks[k] = t[i].fKey) : Mrg t ks (i + 1) (k + 1) where
  kk := hk
  ii := hi
  lo j hj hj2 i' hi' hi2 := by
    by_cases hjk : j < k
    · exact h.lo j hjk hj2 i' (by omega) hi2
    · obtain rfl : j = k := by omega
      rw [he]; exact key_at ht (by omega) hi2
  hi j hj hj2 i' hi' hi2 := by
    by_cases hii : i' < i
    · exact h.hi j (by omega) hj2 i' hii hi2
    · obtain rfl : i' = i := by omega
      rw [← he]; exact asc_at ha (by omega) hj2
theorem le_cases {a b : List UInt8} (h : ¬ a < b) (h2 : a ≠ b) : b < a := by
  have h3 : b ≤ a := by simpa using h
  rcases List.le_iff_lt_or_eq.1 h3 with h4 | h4
  · exact h4
  · exact absurd h4.symm h2
theorem rput_loops {f : SFeatures} {t : List SBlock} {ks : List (List UInt8)} (ha : AscS ks) (hk : ks.length ≤ 42) (h : VT t) (hb : TBn t 50000) :
    ∃ r : List SBlock × Int, iter FU (fun s => m_ref30_Put_L1 FU t f ks s.1 s.2.1 s.2.2) (([] : List SBlock), (0 : Int), (0 : Int)) = some r ∧ iter FU (fun s => m_ref30_Put_L3 FU f ks s.1 s.2) (r.1, r.2) = some (putT t ks f.fID) := by
  have hn := hb.n
  have bnd : ∀ i k, (putT (t.take i) (ks.take k) f.fID).length ≤ 51000 := fun i k => by
    have h1 : TBn (t.take i) 50000 := ⟨by rw [List.length_take]; omega, fun b hb' => hb.i b (List.mem_of_mem_take hb')⟩
    have := (h1.putT (x := f.fID) (ks := ks.take k)).n
    rw [List.length_take] at this; omega
  obtain ⟨r, hr, k, hrk, hM⟩ := iter_inv (σ := List SBlock × Int × Int) (f := fun s => m_ref30_Put_L1 FU t f ks s.1 s.2.1 s.2.2) (fun m s => ∃ i k, s = (putT (t.take i) (ks.take k) f.fID, ((k : Nat) : Int), ((i : Nat) : Int)) ∧ i + m = t.length ∧ Mrg t ks i k)
      (fun r : List SBlock × Int => ∃ k, r = (putT t (ks.take k) f.fID, ((k : Nat) : Int)) ∧ Mrg t ks t.length k) (by
    rintro m s ⟨i, k, rfl, him, hM⟩
    simp only [m_ref30_Put_L1]
    by_cases hi : i < t.length
    · left
      rw [if_pos (decide_eq_true (by omega))]
      obtain ⟨a, b, hab, hap, hbp⟩ := split_lt (fun y => ltS y t[i].fKey) (ks.drop k)
      have hkl := hM.kk
      have hal : a.length ≤ ks.length - k := by have := congrArg List.length hab; rw [List.length_drop, List.length_append] at this; omega
      have hab' : ks.length - k = a.length + b.length := by have := congrArg List.length hab; rw [List.length_drop, List.length_append] at this; exact this
      have hget : ∀ j (hj : j < a.length) (hj2 : k + j < ks.length), ks[k + j] < t[i].fKey := fun j hj hj2 => by
        have h1 : (ks.drop k)[j]'(by rw [List.length_drop]; omega) = a[j] := by
          simp only [hab]; rw [List.getElem_append_left hj]
        rw [List.getElem_drop] at h1
        rw [h1]
        have := hap _ (List.getElem_mem hj)
        rw [ltS_str] at this
        simpa using this
      have hMj : ∀ j, j ≤ a.length → Mrg t ks i (k + j) := by
        intro j
        induction j with
        | zero => intro _; exact hM
        | succ j ih => intro hj; exact (ih (by omega)).step h.a (by omega) (fun _ => hget j (by omega) (by omega))
      have hin : iter FU (fun s => m_ref30_Put_L2 FU t f ks (i : Int) s.1 s.2) (putT (t.take i) (ks.take k) f.fID, (k : Int)) = some (putT (t.take i) (ks.take (k + a.length)) f.fID, ((k + a.length : Nat) : Int)) := by
        refine iter_to (f := fun s => m_ref30_Put_L2 FU t f ks (i : Int) s.1 s.2) (fun j => (putT (t.take i) (ks.take (k + j)) f.fID, ((k + j : Nat) : Int))) a.length FU _ (fun j hj => ?_) ?_ (by simp only [FU]; omega) rfl
        · have hj2 : k + j < ks.length := by omega
          have hbd := bnd i (k + j)
          simp only [m_ref30_Put_L2]
          rw [if_pos (decide_eq_true (by omega)), ixL hj2, Option.bind_some, if_pos (decide_eq_true (by omega)), ixL hi, Option.bind_some, ltS_str, decide_eq_true (by omega : ((k + j : Nat) : Int) < (ks.length : Int)), decide_eq_true (hget j hj hj2), Bool.and_self, if_pos rfl, Option.bind_some, app_one (by omega) (by omega), Option.bind_some, wadd1 hj2 (by simp only [ML]; omega), (hMj j (by omega)).next ha hj2]
          rfl
        · simp only [m_ref30_Put_L2]
          by_cases hk2 : k + a.length < ks.length
          · rw [if_pos (decide_eq_true (by omega)), ixL hk2, Option.bind_some, if_pos (decide_eq_true (by omega)), ixL hi, Option.bind_some]
            have : ltS ks[k + a.length] t[i].fKey = false := by
              cases b with
              | nil => simp at hab'; omega
              | cons y b' =>
                have h1 : (ks.drop k)[a.length]'(by rw [List.length_drop]; omega) = y := by
                  simp only [hab]; rw [List.getElem_append_right (Nat.le_refl _)]; simp
                rw [List.getElem_drop] at h1
                rw [h1]; exact hbp y b' rfl
            rw [this, Bool.and_false, if_neg (by simp)]
          · have hd : decide (((k + a.length : Nat) : Int) < (ks.length : Int)) = false := decide_eq_false (by omega)
            rw [hd]; simp
      have hge : ∀ (hk2 : k + a.length < ks.length), ¬ ks[k + a.length] < t[i].fKey := fun hk2 => by
        cases b with
        | nil => simp at hab'; omega
        | cons y b' =>
          have h1 : (ks.drop k)[a.length]'(by rw [List.length_drop]; omega) = y := by
            simp only [hab]; rw [List.getElem_append_right (Nat.le_refl _)]; simp
          rw [List.getElem_drop] at h1
          rw [h1]
          have := hbp y b' rfl
          rw [ltS_str] at this; simpa using this
      have hM2 := hMj a.length (Nat.le_refl _)
      have hbl := hb.i _ (List.getElem_mem hi)
      have hbd := bnd i (k + a.length)
      rw [hin, Option.bind_some, ixL hi, Option.bind_some, Option.bind_some, app_eq (by simp; omega) (by simp; omega), Option.bind_some, List.nil_append]
      have hlow : ∀ s ∈ ks.take (k + a.length), s < t[i].fKey := fun s hs => by
        obtain ⟨j, hj, e⟩ := List.getElem_of_mem hs
        rw [List.length_take] at hj
        rw [List.getElem_take] at e
        rw [← e]
        exact hM2.lo j (by omega) (by omega) i (Nat.le_refl _) hi
      dsimp only
      generalize hK : k + a.length = K at *
      by_cases hc : ∃ (hk2 : K < ks.length), ks[K] = t[i].fKey
      · obtain ⟨hk2, he⟩ := hc
        refine ⟨_, m - 1, ?_, by omega, i + 1, K + 1, rfl, by omega, hM2.both h.a ha hi hk2 he⟩
        rw [if_pos (decide_eq_true (by omega)), ixL hk2, Option.bind_some, decide_eq_true (by omega : (K : Int) < (ks.length : Int)), decide_eq_true he, Bool.and_self, if_pos rfl, add_ok (by omega), Option.bind_some, wadd1 hk2 (by simp only [ML]; omega), Option.bind_some, app_one (by omega) (by omega), Option.bind_some, wadd1 hi (by simp only [ML]; omega)]
        congr 3
        rw [take_snocL hi, take_snocL hk2, putT_snoc, putT_snocb hlow]
        have hkk : ∀ c ∈ putT (t.take i) (ks.take K) f.fID, c.fKey < t[i].fKey := by
          rw [← he]; exact hM2.keys ha hk2
        rw [he]
        exact (ins1_found (s := t[i].fKey) (l := t[i].fIDs) (x := f.fID) (b := []) hkk).symm
      · have hne : ∀ hk2 : K < ks.length, ks[K] ≠ t[i].fKey := fun hk2 e => hc ⟨hk2, e⟩
        refine ⟨_, m - 1, ?_, by omega, i + 1, K, rfl, by omega, hM2.skip ha hi (fun hk2 => le_cases (hge hk2) (hne hk2))⟩
        have hcond : (((if (decide ((K : Int) < (ks.length : Int))) = true then ix ks (K : Int) else some default)).bind fun v14 =>
            if ((decide ((K : Int) < (ks.length : Int))) && (decide (v14 = t[i].fKey))) = true then
              (m_ref30_add FU t[i].fIDs f.fID).bind fun v15 => some ((IntKind.i64.wrap ((K : Int) + (1 : Int))), v15)
            else some ((K : Int), t[i].fIDs)) = some ((K : Int), t[i].fIDs) := by
          by_cases hk2 : K < ks.length
          · rw [if_pos (decide_eq_true (by omega)), ixL hk2, Option.bind_some, decide_eq_false (hne hk2), Bool.and_false, if_neg (by simp)]
          · have hd : decide ((K : Int) < (ks.length : Int)) = false := decide_eq_false (by omega)
            rw [hd]; simp
        rw [hcond, Option.bind_some, app_one (by omega) (by omega), Option.bind_some, wadd1 hi (by simp only [ML]; omega), take_snocL hi, putT_snocb hlow]
    · right
      rw [if_neg (by simp; omega)]
      obtain rfl : i = t.length := by have := hM.ii; omega
      exact ⟨_, rfl, k, by rw [List.take_length], hM⟩) t.length FU _ ⟨0, 0, rfl, by omega, ⟨by omega, by omega, fun j hj => by omega, fun j _ _ i' hi => by omega⟩⟩ (by simp only [FU]; omega)
  refine ⟨r, hr, ?_⟩
  subst hrk
  have hkl := hM.kk
  have hMj : ∀ j, k + j ≤ ks.length → Mrg t ks t.length (k + j) := by
    intro j
    induction j with
    | zero => intro _; exact hM
    | succ j ih => intro hj; exact (ih (by omega)).step h.a (by omega) (fun hi => by omega)
  refine iter_to (f := fun s => m_ref30_Put_L3 FU f ks s.1 s.2) (fun j => (putT t (ks.take (k + j)) f.fID, ((k + j : Nat) : Int))) (ks.length - k) FU _ (fun j hj => ?_) ?_ (by simp only [FU]; omega) rfl
  · have hj2 : k + j < ks.length := by omega
    have hbd := bnd t.length (k + j)
    have hnx := (hMj j (by omega)).next (x := f.fID) ha hj2
    rw [List.take_length] at hbd hnx
    simp only [m_ref30_Put_L3]
    rw [if_pos (decide_eq_true (by omega)), ixL hj2, Option.bind_some, app_one (by omega) (by omega), Option.bind_some, wadd1 hj2 (by simp only [ML]; omega), hnx]
    rfl
  · simp only [m_ref30_Put_L3]
    rw [if_neg (by simp; omega), List.take_of_length_le (by omega)]
theorem rPut_ok {t : List SBlock} {f : SFeatures} (ht : TBn t 50000) (hf : FOk f) : m_ref30_Put FU t f = some (putR t f) := by
  have htb : TB t := ht.tb (by omega)
  unfold m_ref30_Put putR
  have h0 : m_ref29_Valid FU (⟨f.fID, f.fTitle, f.fAuthor, f.fYears, f.fIsbns, f.fLangs, f.fPublisher, f.fEdition⟩ : SFeatures) = some (fv f) := refv_ok hf
  have h4 : m_ref30_Keys FU (⟨f.fID, f.fTitle, f.fAuthor, f.fYears, f.fIsbns, f.fLangs, f.fPublisher, f.fEdition⟩ : SFeatures) = some (keys f) := rkeys_ok hf
  rw [rval_ok htb, Option.bind_some, h0, rin_ok htb, h4]
  cases h1 : tabB t with
  | false => simp
  | true =>
    cases h2 : fv f with
    | false => simp
    | true =>
      simp only [Bool.not_true, Bool.not_false, if_true, Option.bind_some, Bool.or_self, Bool.false_eq_true, if_false]
      cases h3 : hasT t f.fID with
      | true => rfl
      | false =>
        rw [if_neg (by simp), if_neg (by simp)]
        obtain ⟨r, h5, h6⟩ := rput_loops (f := f) (keys_asc f) (keys_len f) (tabB_iff.1 h1) ht
        rw [h5, Option.bind_some, h6]; rfl
end
section
/- Tables of records, and records taken out of tables, in plain Lean. Conditions: none. -/
open Go
theorem iter_anyS {σ ρ : Type} {f : σ → Option (σ ⊕ ρ)} (tb te : ρ) : ∀ (m n : Nat) (st : Nat → σ) (bad : Nat → Bool),
    (∀ j, j < m → (∀ h, h < j → bad h = false) → f (st j) = some (if bad j = true then .inr tb else .inl (st (j + 1)))) → ((∀ h, h < m → bad h = false) → f (st m) = some (.inr te)) → m < n →
    iter n f (st 0) = some (if anyN m bad = true then tb else te)
  | 0, n + 1, st, bad, _, he, _ => by
    rw [iter, he (fun h hh => by omega)]; rfl
  | m + 1, n + 1, st, bad, hs, he, hn => by
    rw [iter, hs 0 (by omega) (fun h hh => by omega)]
    cases hb : bad 0 with
    | true =>
      rw [if_pos rfl, if_pos (anyN_t.2 ⟨0, by omega, hb⟩)]; rfl
    | false =>
      rw [if_neg (by simp), Option.bind_some]
      have ih := iter_anyS tb te m n (fun j => st (j + 1)) (fun j => bad (j + 1)) (fun j hj hh => hs (j + 1) (by omega) (fun h hlt => by
        cases h with
        | zero => exact hb
        | succ h => exact hh h (by omega))) (fun hh => he (fun h hlt => by
        cases h with
        | zero => exact hb
        | succ h => exact hh h (by omega))) (by omega)
      have e : anyN (m + 1) bad = anyN m (fun j => bad (j + 1)) := by
        rw [Bool.eq_iff_iff, anyN_t, anyN_t]
        constructor
        · rintro ⟨i, h1, h2⟩
          cases i with
          | zero => rw [hb] at h2; cases h2
          | succ i => exact ⟨i, by omega, h2⟩
        · rintro ⟨i, h1, h2⟩; exact ⟨i + 1, by omega, h2⟩
      rw [e]
      exact ih
  | m, 0, _, _, _, _, hn => by omega
theorem block_of {t : List SBlock} (h : AscS (t.map (·.fKey))) {i : Nat} (hi : i < t.length) {x : Int} : mem t t[i].fKey x ↔ x ∈ t[i].fIDs := by
  constructor
  · rintro ⟨b, hb, hk, hx⟩
    obtain ⟨j, hj, rfl⟩ := List.getElem_of_mem hb
    have : j = i := by
      rcases Nat.lt_trichotomy j i with hl | hl | hl
      · have := key_at h hl hi; rw [hk] at this; exact absurd this (List.lt_irrefl _)
      · exact hl
      · have := key_at h hl hj; rw [hk] at this; exact absurd this (List.lt_irrefl _)
    subst this; exact hx
  · intro hx; exact ⟨_, List.getElem_mem hi, rfl, hx⟩
theorem key_mem {t : List SBlock} (h : VT t) {s : List UInt8} : s ∈ t.map (·.fKey) ↔ ∃ x, mem t s x := by
  constructor
  · intro hs
    obtain ⟨b, hb, rfl⟩ := List.mem_map.1 hs
    cases hI : b.fIDs with
    | nil => exact absurd hI (h.b b hb).n
    | cons x l => exact ⟨x, b, hb, rfl, by simp [hI]⟩
  · rintro ⟨x, b, hb, rfl, _⟩; exact List.mem_map.2 ⟨b, hb, rfl⟩
theorem VT.ext {t u : List SBlock} (ht : VT t) (hu : VT u) (h : ∀ s x, mem t s x ↔ mem u s x) : t = u := by
  have hk : t.map (·.fKey) = u.map (·.fKey) := ascS_ext ht.a hu.a fun s => by
    rw [key_mem ht, key_mem hu]; exact exists_congr fun x => h s x
  have hl : t.length = u.length := by have := congrArg List.length hk; simpa using this
  refine List.ext_getElem hl fun i h1 h2 => ?_
  have e1 : t[i].fKey = u[i].fKey := by
    have : (t.map (·.fKey))[i]'(by simpa using h1) = (u.map (·.fKey))[i]'(by simpa using h2) := by simp only [hk]
    simpa using this
  have e2 : t[i].fIDs = u[i].fIDs := ascI_ext (ht.b _ (List.getElem_mem h1)).a (hu.b _ (List.getElem_mem h2)).a fun x => by
    rw [← block_of ht.a h1, ← block_of hu.a h2, e1]; exact h _ x
  show t[i] = u[i]
  calc t[i] = ⟨t[i].fKey, t[i].fIDs⟩ := rfl
    _ = ⟨u[i].fKey, u[i].fIDs⟩ := by rw [e1, e2]
    _ = u[i] := rfl
abbrev ids (l : List SFeatures) : List Int := l.map (·.fID)
def ofT (l : List SFeatures) : List SBlock := l.foldl (fun t f => putT t (keys f) f.fID) []
theorem ofT_snoc {l : List SFeatures} {f : SFeatures} : ofT (l ++ [f]) = putT (ofT l) (keys f) f.fID := by simp [ofT]
theorem snoc_ind {α : Type} {P : List α → Prop} (h0 : P []) (h1 : ∀ l x, P l → P (l ++ [x])) (l : List α) : P l := by
  have : ∀ r : List α, P r.reverse := by
    intro r
    induction r with
    | nil => exact h0
    | cons x r ih => rw [List.reverse_cons]; exact h1 _ _ ih
  have := this l.reverse
  rwa [List.reverse_reverse] at this
theorem mem_ofT {s : List UInt8} {x : Int} (l : List SFeatures) : mem (ofT l) s x ↔ ∃ f ∈ l, s ∈ keys f ∧ x = f.fID := by
  induction l using snoc_ind with
  | h0 => simp [ofT, mem_nil]
  | h1 l f ih =>
    rw [ofT_snoc, mem_putT, ih]
    constructor
    · rintro (⟨g, hg, h⟩ | h)
      · exact ⟨g, by simp [hg], h⟩
      · exact ⟨f, by simp, h⟩
    · rintro ⟨g, hg, h⟩
      rcases List.mem_append.1 hg with hg | hg
      · exact .inl ⟨g, hg, h⟩
      · rw [List.mem_singleton] at hg; subst hg; exact .inr h
theorem nd_snoc {α : Type} {l : List α} {x : α} : (l ++ [x]).Nodup ↔ l.Nodup ∧ x ∉ l := by
  rw [List.nodup_append]
  constructor
  · rintro ⟨h1, _, h2⟩; exact ⟨h1, fun hx => h2 x hx x (by simp) rfl⟩
  · rintro ⟨h1, h2⟩; exact ⟨h1, by simp, fun a ha b hb e => by simp at hb; subst hb; subst e; exact h2 ha⟩
theorem not_mem_ofT {l : List SFeatures} {x : Int} (h : x ∉ ids l) (s : List UInt8) : ¬ mem (ofT l) s x := by
  rw [mem_ofT]
  rintro ⟨f, hf, _, rfl⟩
  exact h (List.mem_map.2 ⟨f, hf, rfl⟩)
theorem VT.ofT (l : List SFeatures) : (∀ f ∈ l, fv f = true) → (ids l).Nodup → VT (ofT l) := by
  induction l using snoc_ind with
  | h0 => exact fun _ _ => ⟨by simp [Ab.ofT], by simp [Ab.ofT]⟩
  | h1 l f ih =>
    intro hv hn
    unfold ids at hn
    rw [List.map_append, List.map_singleton, nd_snoc] at hn
    rw [ofT_snoc]
    exact (ih (fun g hg => hv g (by simp [hg])) hn.1).putT (fv_p (hv f (by simp))).d (fun s hs => ⟨keys_ne hs, not_mem_ofT hn.2 s⟩) (keys_asc f).nd
theorem TBn.ofT (l : List SFeatures) : TBn (ofT l) (42 * l.length) := by
  induction l using snoc_ind with
  | h0 => exact ⟨by simp [Ab.ofT], by simp [Ab.ofT]⟩
  | h1 l f ih =>
    rw [ofT_snoc]
    have h := ih.putT (x := f.fID) (ks := keys f)
    have hk := keys_len f
    refine ⟨?_, fun b hb => ?_⟩
    · have := h.n; simp; omega
    · have := h.i b hb; simp; omega
def dup (l : List SFeatures) : Bool := anyN l.length fun j => decide ((l.getD j ⟨0, [], [], [], [], [], [], []⟩).fID ∈ ids (l.take j))
theorem dup_iff (l : List SFeatures) : dup l = false ↔ (ids l).Nodup := by
  unfold dup
  rw [anyN_f]
  induction l using snoc_ind with
  | h0 => simp
  | h1 l f ih =>
    unfold ids at *
    rw [List.map_append, List.map_singleton, nd_snoc, ← ih]
    constructor
    · intro h
      refine ⟨fun i hi => ?_, ?_⟩
      · have := h i (by simp; omega)
        rw [List.take_append_of_le_length (by omega), List.getD_eq_getElem?_getD, List.getElem?_append_left hi, ← List.getD_eq_getElem?_getD] at this
        exact this
      · have := h l.length (by simp)
        rw [List.take_left' rfl, List.getD_eq_getElem?_getD, List.getElem?_append_right (Nat.le_refl _)] at this
        simpa using this
    · rintro ⟨h1, h2⟩ i hi
      rw [List.length_append, List.length_singleton] at hi
      by_cases hil : i < l.length
      · have := h1 i hil
        rw [List.take_append_of_le_length (by omega), List.getD_eq_getElem?_getD, List.getElem?_append_left hil, ← List.getD_eq_getElem?_getD]
        exact this
      · obtain rfl : i = l.length := by omega
        rw [List.take_left' rfl, List.getD_eq_getElem?_getD, List.getElem?_append_right (Nat.le_refl _)]
        simpa using h2
def ofR (l : List SFeatures) : List SBlock × Int := if l.all fv = false then ([], 1) else if dup l = true then ([], 10) else (ofT l, 0)
theorem ids_take {l : List SFeatures} {j : Nat} (h : (ids l).Nodup) (hj : j < l.length) : l[j].fID ∉ ids (l.take j) := by
  have := nd_take h (j := j) (by simpa using hj)
  unfold ids at *
  rw [List.getElem_map, ← List.map_take] at this
  exact this
theorem dup_at {l : List SFeatures} {j : Nat} (hj : j < l.length) : decide ((l.getD j ⟨0, [], [], [], [], [], [], []⟩).fID ∈ ids (l.take j)) = decide (l[j].fID ∈ ids (l.take j)) := by
  rw [show l.getD j ⟨0, [], [], [], [], [], [], []⟩ = l[j] by simp [hj]]
theorem ids_snoc {l : List SFeatures} {j : Nat} (hj : j < l.length) : ids (l.take (j + 1)) = ids (l.take j) ++ [l[j].fID] := by
  unfold ids; rw [take_snocL hj, List.map_append]; rfl
def im (l : List Int) : List (Int × Bool) := l.foldl (fun m k => mput m k true) []
theorem im_keys (l : List Int) : ((im l).map (·.1)).Nodup ∧ ∀ x, x ∈ (im l).map (·.1) ↔ x ∈ l := by
  induction l using snoc_ind with
  | h0 => simp [im]
  | h1 l k ih =>
    have e : im (l ++ [k]) = mput (im l) k true := by simp [im]
    rw [e]
    refine ⟨nodup_put ih.1, fun x => ?_⟩
    rw [mput_keys]
    split
    · rename_i hk
      rw [ih.2]
      rw [ih.2] at hk
      simp only [List.mem_append, List.mem_singleton]
      exact ⟨.inl, fun h => h.elim id (fun e => e ▸ hk)⟩
    · rw [List.mem_append, ih.2]; simp
theorem im_get {l : List Int} {x : Int} : (mget (im l) x).getD false = decide (x ∈ l) := by
  have h := im_keys l
  have hall : ∀ p ∈ im l, p.2 = true := by
    clear h
    induction l using snoc_ind with
    | h0 => simp [im]
    | h1 l k ih =>
      have e : im (l ++ [k]) = mput (im l) k true := by simp [im]
      rw [e]
      intro p hp
      unfold mput at hp
      cases hf : mfind (im l) k with
      | some j =>
        rw [hf] at hp
        rcases List.mem_or_eq_of_mem_set hp with hp | rfl
        · exact ih p hp
        · rfl
      | none =>
        rw [hf] at hp
        rcases List.mem_append.1 hp with hp | hp
        · exact ih p hp
        · rw [List.mem_singleton] at hp; subst hp; rfl
  cases hg : mget (im l) x with
  | none =>
    rw [mget_none, h.2] at hg
    rw [decide_eq_false hg]; rfl
  | some b =>
    have hm := mget_mem hg
    have hb : b = true := hall _ hm
    have hx : x ∈ l := (h.2 x).1 (List.mem_map.2 ⟨_, hm, rfl⟩)
    rw [decide_eq_true hx, hb]; rfl
theorem Of_ok {l : List SFeatures} (hl : l.length ≤ 8) (hf : ∀ f ∈ l, FOk f) : m_block_Of FU l = some (ofR l) := by
  have e1 : m_slices_ContainsFunc_feature_Features_feature_Features FU l (fun y1 => m_block_Of_1 FU y1) = some (l.any fun f => !fv f) :=
    contains_loop FU l (fun y1 => m_block_Of_1 FU y1) (fun f => !fv f) (fun f hfm => by
      unfold m_block_Of_1
      have h0 : m_feature_Valid FU (⟨f.fID, f.fTitle, f.fAuthor, f.fYears, f.fIsbns, f.fLangs, f.fPublisher, f.fEdition⟩ : SFeatures) = some (fv f) := feature_ok (hf f hfm) (by decide)
      rw [h0]; rfl) (by simp only [ML]; omega) (by simp only [FU]; omega)
  unfold m_block_Of ofR
  rw [e1, Option.bind_some, ← List.not_all_eq_any_not]
  cases hv : l.all fv with
  | false => rfl
  | true =>
    rw [if_neg (by simp), if_neg (c := true = false) (by simp)]
    have e2 := iter_anyS (f := fun s => m_block_Of_L1 FU l s.1 s.2) (.inl ([], 10)) (.inr (im (ids l))) l.length FU (fun j => ((j : Int), im (ids (l.take j)))) (fun j => decide ((l.getD j ⟨0, [], [], [], [], [], [], []⟩).fID ∈ ids (l.take j))) (fun j hj _ => by
      simp only [m_block_Of_L1]
      rw [if_pos (decide_eq_true (by omega)), ixL hj, Option.bind_some, im_get, wadd1 hj (by simp only [ML]; omega), dup_at hj]
      cases decide (l[j].fID ∈ ids (l.take j)) with
      | true => rfl
      | false =>
        rw [if_neg (by simp), if_neg (by simp), Option.bind_some, ids_snoc hj]
        simp [im]) (fun _ => by simp only [m_block_Of_L1]; rw [if_neg (by simp), List.take_length]) (by simp only [FU]; omega)
    rw [show iter FU (fun s => m_block_Of_L1 FU l s.1 s.2) ((0 : Int), []) = _ from e2, Option.bind_some]
    show (match (if dup l = true then _ else _ : ((List SBlock) × Int) ⊕ (List (Int × Bool))) with | .inl u4 => _ | .inr u5 => _) = _
    cases hd : dup l with
    | true => rfl
    | false =>
      have hn := (dup_iff l).1 hd
      simp only [Bool.false_eq_true, if_false]
      rw [if_neg (by simp; omega)]
      have e3 : iter FU (fun s => m_block_Of_L2 FU l s.1 s.2) ((0 : Int), ([] : List SBlock)) = some (ofT l) := by
        refine iter_to (f := fun s => m_block_Of_L2 FU l s.1 s.2) (fun j => ((j : Int), ofT (l.take j))) l.length FU _ (fun j hj => ?_) ?_ (by simp only [FU]; omega) rfl
        · simp only [m_block_Of_L2]
          have hv2 : ∀ f ∈ l, fv f = true := List.all_eq_true.1 hv
          have hm := List.getElem_mem hj
          have hb := TBn.ofT (l.take j)
          have hlt : (l.take j).length ≤ 8 := by rw [List.length_take]; omega
          have h0 : m_block_put FU (ofT (l.take j)) (⟨l[j].fID, l[j].fTitle, l[j].fAuthor, l[j].fYears, l[j].fIsbns, l[j].fLangs, l[j].fPublisher, l[j].fEdition⟩ : SFeatures) = some (putT (ofT (l.take j)) (keys l[j]) l[j].fID) :=
            bput_ok (hf _ hm) (hv2 _ hm) (VT.ofT _ (fun f hf => hv2 f (List.mem_of_mem_take hf)) (hn.sublist ((List.take_sublist j l).map _))) ⟨by have := hb.n; omega, fun b hb' => by have := hb.i b hb'; omega⟩ (fun s _ => not_mem_ofT (ids_take hn hj) s)
          rw [if_pos (decide_eq_true (by omega)), ixL hj, Option.bind_some, h0, Option.bind_some, wadd1 hj (by simp only [ML]; omega), take_snocL hj, ofT_snoc]
        · simp only [m_block_Of_L2]; rw [if_neg (by simp), List.take_length]
      rw [e3]; rfl
theorem hasT_ofT {l : List SFeatures} {x : Int} (h : x ∉ ids l) : hasT (ofT l) x = false := by
  cases hh : hasT (ofT l) x with
  | false => rfl
  | true =>
    obtain ⟨s, hs⟩ := hasT_iff.1 hh
    exact absurd hs (not_mem_ofT h s)
theorem putR_of {l : List SFeatures} {f : SFeatures} (hv : ∀ g ∈ l, fv g = true) (hn : (ids l).Nodup) (hf : fv f = true) (hx : f.fID ∉ ids l) : putR (ofT l) f = (putT (ofT l) (keys f) f.fID, 0) := by
  unfold putR
  rw [tabB_iff.2 (VT.ofT l hv hn), hf, if_neg (by simp), hasT_ofT hx, if_neg (by simp)]
theorem rOf_ok {l : List SFeatures} (hl : l.length ≤ 8) (hf : ∀ f ∈ l, FOk f) : m_ref30_Of FU l = some (ofR l) := by
  unfold m_ref30_Of ofR
  have e1 := iter_any (ρ := ((List SBlock) × Int) ⊕ Unit) (f := fun s => m_ref30_Of_L1 FU l s) l.length FU (fun i => !fv (l.getD i ⟨0, [], [], [], [], [], [], []⟩)) (.inl ([], 1)) (.inr ()) (fun j hj => by
    simp only [m_ref30_Of_L1]
    rw [if_pos (decide_eq_true (by omega)), ixL hj, Option.bind_some, refv_ok (hf _ (List.getElem_mem hj)), Option.bind_some, wadd1 hj (by simp only [ML]; omega), show l.getD j ⟨0, [], [], [], [], [], [], []⟩ = l[j] by simp [hj]]
    split <;> rfl) (by simp [m_ref30_Of_L1]) (by simp only [FU]; omega)
  rw [e1, Option.bind_some, anyN_getD l ⟨0, [], [], [], [], [], [], []⟩ (fun f => !fv f), ← List.not_all_eq_any_not]
  cases hv : l.all fv with
  | false => rfl
  | true =>
    rw [if_neg (by simp), if_neg (c := true = false) (by simp)]
    have e2 := iter_anyS (f := fun s => m_ref30_Of_L2 FU l s.1 s.2) (.inl ([], 10)) (.inr (ids l)) l.length FU (fun j => (ids (l.take j), (j : Int))) (fun j => decide ((l.getD j ⟨0, [], [], [], [], [], [], []⟩).fID ∈ ids (l.take j))) (fun j hj _ => by
      simp only [m_ref30_Of_L2]
      have hlt : (ids (l.take j)).length ≤ 8 := by simp; omega
      rw [if_pos (decide_eq_true (by omega)), ixL hj, Option.bind_some, rhas_ok (by omega), Option.bind_some, wadd1 hj (by simp only [ML]; omega), dup_at hj]
      cases decide (l[j].fID ∈ ids (l.take j)) with
      | true => rfl
      | false =>
        rw [if_neg (by simp), if_neg (by simp), Option.bind_some, app_one (by omega) (by omega), Option.bind_some, ids_snoc hj]) (fun _ => by simp only [m_ref30_Of_L2]; rw [if_neg (by simp), List.take_length]) (by simp only [FU]; omega)
    dsimp only
    rw [show iter FU (fun s => m_ref30_Of_L2 FU l s.1 s.2) ([], (0 : Int)) = _ from e2, Option.bind_some]
    show (match (if dup l = true then _ else _ : ((List SBlock) × Int) ⊕ (List Int)) with | .inl u4 => _ | .inr u5 => _) = _
    cases hd : dup l with
    | true => rfl
    | false =>
      have hn := (dup_iff l).1 hd
      simp only [Bool.false_eq_true, if_false]
      rw [if_neg (by simp; omega)]
      have e3 : iter FU (fun s => m_ref30_Of_L3 FU l s.1 s.2) (([] : List SBlock), (0 : Int)) = some (ofT l) := by
        refine iter_to (f := fun s => m_ref30_Of_L3 FU l s.1 s.2) (fun j => (ofT (l.take j), (j : Int))) l.length FU _ (fun j hj => ?_) ?_ (by simp only [FU]; omega) rfl
        · simp only [m_ref30_Of_L3]
          have hv2 : ∀ f ∈ l, fv f = true := List.all_eq_true.1 hv
          have hm := List.getElem_mem hj
          have hb := TBn.ofT (l.take j)
          have hlt : (l.take j).length ≤ 8 := by rw [List.length_take]; omega
          rw [if_pos (decide_eq_true (by omega)), ixL hj, Option.bind_some, rPut_ok ⟨by have := hb.n; omega, fun b hb' => by have := hb.i b hb'; omega⟩ (hf _ hm), Option.bind_some,
            putR_of (fun f hf => hv2 f (List.mem_of_mem_take hf)) (hn.sublist ((List.take_sublist j l).map _)) (hv2 _ hm) (ids_take hn hj), wadd1 hj (by simp only [ML]; omega), take_snocL hj, ofT_snoc]
        · simp only [m_ref30_Of_L3]; rw [if_neg (by simp), List.take_length]
      rw [e3]; rfl
end
section
/- A record taken out of a table, in plain Lean. Conditions: none. -/
open Go
end
section
/- Candidate pairs, in plain Lean. Conditions: none. -/
open Go
def prR (l : List Int) (i : Nat) : List SPair := (l.drop (i + 1)).map fun y => ⟨l.getD i 0, y⟩
def prI (l : List Int) (j : Nat) : List SPair := (List.range j).flatMap (prR l)
theorem prI_succ {l : List Int} {j : Nat} : prI l (j + 1) = prI l j ++ prR l j := by simp [prI, List.range_succ]
theorem prR_len {l : List Int} {i : Nat} : (prR l i).length ≤ l.length := by simp [prR]
theorem prI_len {l : List Int} : ∀ {j : Nat}, (prI l j).length ≤ j * l.length
  | 0 => by simp [prI]
  | j + 1 => by
    rw [prI_succ, List.length_append]
    have h1 := prI_len (l := l) (j := j)
    have h2 := prR_len (l := l) (i := j)
    rw [Nat.succ_mul]; omega
theorem prI_mem {l : List Int} (h : AscI l) {p : SPair} : p ∈ prI l l.length ↔ p.fA ∈ l ∧ p.fB ∈ l ∧ p.fA < p.fB := by
  unfold prI prR
  simp only [List.mem_flatMap, List.mem_range, List.mem_map]
  constructor
  · rintro ⟨i, hi, y, hy, rfl⟩
    obtain ⟨k, hk, rfl⟩ := List.getElem_of_mem hy
    rw [List.length_drop] at hk
    simp only [List.getElem_drop, show l.getD i 0 = l[i] by simp [hi]]
    exact ⟨List.getElem_mem hi, List.getElem_mem _, List.pairwise_iff_getElem.1 h _ _ hi (by omega) (by omega)⟩
  · rintro ⟨ha, hb, hlt⟩
    obtain ⟨i, hi, ea⟩ := List.getElem_of_mem ha
    obtain ⟨k, hk, eb⟩ := List.getElem_of_mem hb
    have hik : i < k := by
      rcases Nat.lt_trichotomy i k with h1 | h1 | h1
      · exact h1
      · subst h1; omega
      · have := List.pairwise_iff_getElem.1 h _ _ hk hi h1; omega
    refine ⟨i, hi, p.fB, List.mem_iff_getElem.2 ⟨k - (i + 1), by rw [List.length_drop]; omega, by rw [List.getElem_drop]; simp only [show i + 1 + (k - (i + 1)) = k by omega, eb]⟩, ?_⟩
    rw [show l.getD i 0 = l[i] by simp [hi], ea]
def prB (b : SBlock) (n : Int) : List SPair := if (b.fIDs.length : Int) ≤ n then prI b.fIDs b.fIDs.length else []
def prT (t : List SBlock) (n : Int) : List SPair := t.flatMap fun b => prB b n
theorem prT_snoc {t : List SBlock} {b : SBlock} {n : Int} : prT (t ++ [b]) n = prT t n ++ prB b n := by simp [prT]
theorem prB_len {b : SBlock} {n : Int} (h : b.fIDs.length ≤ 400) : (prB b n).length ≤ 160000 := by
  unfold prB
  split
  · have := prI_len (l := b.fIDs) (j := b.fIDs.length)
    exact Nat.le_trans this (Nat.mul_le_mul h h)
  · simp
theorem prT_len {n : Int} : ∀ {t : List SBlock}, (∀ b ∈ t, b.fIDs.length ≤ 400) → (prT t n).length ≤ 160000 * t.length
  | [], _ => by simp [prT]
  | b :: t, h => by
    have h1 := prB_len (n := n) (h b (by simp))
    have h2 := prT_len (n := n) (t := t) (fun b hb => h b (by simp [hb]))
    show (prB b n ++ prT t n).length ≤ _
    rw [List.length_append, List.length_cons]; omega
def cand (t : List SBlock) (n : Int) (p : SPair) : Prop := ∃ b ∈ t, (b.fIDs.length : Int) ≤ n ∧ p.fA ∈ b.fIDs ∧ p.fB ∈ b.fIDs ∧ p.fA < p.fB
theorem prT_mem {t : List SBlock} {n : Int} (h : VT t) {p : SPair} : p ∈ prT t n ↔ cand t n p := by
  unfold prT cand prB
  simp only [List.mem_flatMap]
  constructor
  · rintro ⟨b, hb, hp⟩
    split at hp
    · rename_i hl
      exact ⟨b, hb, hl, (prI_mem (h.b b hb).a).1 hp⟩
    · cases hp
  · rintro ⟨b, hb, hl, hp⟩
    exact ⟨b, hb, by rw [if_pos hl]; exact (prI_mem (h.b b hb).a).2 hp⟩
def pairsT (t : List SBlock) (n : Int) : List SPair := cmpct (isort (ltOf cfP) (prT t n))
theorem pairsT_asc (t : List SBlock) (n : Int) : AscP (pairsT t n) := sorted_pair _
theorem pairsT_mem {t : List SBlock} {n : Int} (h : VT t) {p : SPair} : p ∈ pairsT t n ↔ cand t n p := by unfold pairsT; rw [sorted_pair_mem, prT_mem h]
def pairsR (t : List SBlock) (n : Int) : List SPair × Int := if tabB t = false then ([], 1) else if n < 2 ∨ 1000 < n then ([], 2) else (pairsT t n, 0)
theorem Pairs_ok {t : List SBlock} {n : Int} (ht : TBn t 400) : m_block_Pairs FU t n = some (pairsR t n) := by
  unfold m_block_Pairs pairsR
  rw [bval_ok (ht.tb (by omega))]
  have hn := ht.n
  cases tabB t with
  | false => simp
  | true =>
    simp only [Option.bind_some, Bool.not_true, Bool.false_eq_true, if_false, Bool.true_eq_false]
    by_cases hr : n < 2 ∨ 1000 < n
    · rw [if_pos (by simpa using hr), if_pos hr]
    · rw [if_neg (by simpa using hr), if_neg hr]
      have e3 : ∀ (v : Int) (m : List Int) (acc : List SPair), acc.length ≤ 100000000 → m.length ≤ 1000000 → iter FU (fun s => m_block_Pairs_L3 FU v m s.1 s.2) ((0 : Int), acc) = some (acc ++ m.map fun y => ⟨v, y⟩) := by
        intro v m acc ha hm
        refine iter_to (f := fun s => m_block_Pairs_L3 FU v m s.1 s.2) (fun j => ((j : Int), acc ++ (m.take j).map fun y => ⟨v, y⟩)) m.length FU _ (fun j hj => ?_) ?_ (by simp only [FU]; omega) (by simp)
        · simp only [m_block_Pairs_L3]
          rw [if_pos (decide_eq_true (by omega)), ixL hj, Option.bind_some, app_one (by simp; omega) (by simp; omega), Option.bind_some, wadd1 hj (by simp only [ML]; omega), take_snocL hj, List.map_append, List.append_assoc]
          rfl
        · simp only [m_block_Pairs_L3]; rw [if_neg (by simp), List.take_length]
      have e2 : ∀ (b : SBlock) (acc : List SPair), b.fIDs.length ≤ 400 → acc.length ≤ 90000000 → iter FU (fun s => m_block_Pairs_L2 FU b s.1 s.2) ((0 : Int), acc) = some (acc ++ prI b.fIDs b.fIDs.length) := by
        intro b acc hb ha
        refine iter_to (f := fun s => m_block_Pairs_L2 FU b s.1 s.2) (fun j => ((j : Int), acc ++ prI b.fIDs j)) b.fIDs.length FU _ (fun j hj => ?_) ?_ (by simp only [FU]; omega) (by simp [prI])
        · simp only [m_block_Pairs_L2]
          have hl := prI_len (l := b.fIDs) (j := j)
          have hl2 : j * b.fIDs.length ≤ 400 * 400 := Nat.mul_le_mul (by omega) hb
          have hs : slc b.fIDs ((j + 1 : Nat) : Int) (b.fIDs.length : Int) = some (b.fIDs.drop (j + 1)) := slc_tail (by omega) rfl
          rw [if_pos (decide_eq_true (by omega)), ixL hj, Option.bind_some, wadd1 hj (by simp only [ML]; omega), hs, Option.bind_some, e3 _ _ _ (by rw [List.length_append]; omega) (by rw [List.length_drop]; omega), Option.bind_some, prI_succ, List.append_assoc]
          unfold prR
          rw [show b.fIDs.getD j 0 = b.fIDs[j] by simp [hj]]
        · simp only [m_block_Pairs_L2]; rw [if_neg (by simp)]
      have e1 : iter FU (fun s => m_block_Pairs_L1 FU t n s.1 s.2) ((0 : Int), ([] : List SPair)) = some (prT t n) := by
        refine iter_to (f := fun s => m_block_Pairs_L1 FU t n s.1 s.2) (fun j => ((j : Int), prT (t.take j) n)) t.length FU _ (fun j hj => ?_) ?_ (by simp only [FU]; omega) rfl
        · simp only [m_block_Pairs_L1]
          have hl := prT_len (n := n) (t := t.take j) (fun b hb => ht.i b (List.mem_of_mem_take hb))
          rw [List.length_take] at hl
          rw [if_pos (decide_eq_true (by omega)), ixL hj, Option.bind_some, wadd1 hj (by simp only [ML]; omega), take_snocL hj, prT_snoc]
          unfold prB
          by_cases hc : (t[j].fIDs.length : Int) ≤ n
          · rw [if_neg (by simp; omega), if_pos hc, e2 _ _ (ht.i _ (List.getElem_mem hj)) (by omega), Option.bind_some, Option.bind_some]
          · rw [if_pos (by simp; omega), if_neg hc, Option.bind_some, List.append_nil]
        · simp only [m_block_Pairs_L1]; rw [if_neg (by simp), List.take_length]
      have hl := prT_len (n := n) (t := t) ht.i
      rw [e1, Option.bind_some]
      unfold m_slices_SortFunc_api_Pair_api_Pair
      rw [if_pos ⟨by simp [FU], by omega⟩, Option.bind_some, compact_pair (by rw [(isort_perm _ _).length_eq]; omega) (by simp [FU])]
      rfl
instance (x y : SPair) : Decidable (ltP x y) := by unfold ltP; exact inferInstance
end
section
/- Who comes near a record, in plain Lean. Conditions: none. -/
open Go
theorem uniq {t : List SBlock} (h : VT t) {b c : SBlock} (hb : b ∈ t) (hc : c ∈ t) (he : b.fKey = c.fKey) : b = c := by
  obtain ⟨i, hi, rfl⟩ := List.getElem_of_mem hb
  obtain ⟨j, hj, rfl⟩ := List.getElem_of_mem hc
  rcases Nat.lt_trichotomy i j with hl | hl | hl
  · have := key_at h.a hl hj; rw [he] at this; exact absurd this (List.lt_irrefl _)
  · subst hl; rfl
  · have := key_at h.a hl hi; rw [he] at this; exact absurd this (List.lt_irrefl _)
theorem mem_block {t : List SBlock} (h : VT t) {b : SBlock} (hb : b ∈ t) {x : Int} : mem t b.fKey x ↔ x ∈ b.fIDs := by
  constructor
  · rintro ⟨c, hc, he, hx⟩
    rw [uniq h hb hc he.symm]; exact hx
  · intro hx; exact ⟨b, hb, rfl, hx⟩
theorem put_block {t : List SBlock} {ks : List (List UInt8)} {x : Int} (h : VT t) (h2 : VT (putT t ks x)) (hx : hasT t x = false) {b c : SBlock} (hb : b ∈ t) (hc : c ∈ putT t ks x) (he : b.fKey = c.fKey) (hk : c.fKey ∈ ks) : c.fIDs = insI b.fIDs x := by
  have hn : x ∉ b.fIDs := fun hm => not_mem hx _ ⟨b, hb, rfl, hm⟩
  refine ascI_ext (h2.b c hc).a (insI_asc (h.b b hb).a hn) fun y => ?_
  rw [insI_mem, ← mem_block h2 hc, mem_putT, ← he, mem_block h hb]
  rw [← he] at hk
  exact ⟨fun h => h.elim .inr (fun h => .inl h.2), fun h => h.elim (fun h => .inr ⟨hk, h⟩) .inl⟩
def nearP (t : List SBlock) (ks : List (List UInt8)) (n : Int) (y : Int) : Prop := ∃ b ∈ t, b.fKey ∈ ks ∧ (b.fIDs.length : Int) < n ∧ y ∈ b.fIDs
theorem near_cand {t : List SBlock} {ks : List (List UInt8)} {x y n : Int} (h : VT t) (h2 : VT (putT t ks x)) (hx : hasT t x = false) : nearP t ks n y ↔ cand (putT t ks x) n ⟨x, y⟩ ∨ cand (putT t ks x) n ⟨y, x⟩ := by
  constructor
  · rintro ⟨b, hb, hk, hl, hy⟩
    obtain ⟨c, hc, he, hxc⟩ : mem (putT t ks x) b.fKey x := mem_putT.2 (.inr ⟨hk, rfl⟩)
    have e := put_block h h2 hx hb hc he.symm (by rw [he]; exact hk)
    have hlc : (c.fIDs.length : Int) ≤ n := by rw [e, insI_len]; omega
    have hyc : y ∈ c.fIDs := by rw [e]; exact insI_mem.2 (.inr hy)
    have hne : y ≠ x := by rintro rfl; exact not_mem hx _ ⟨b, hb, rfl, hy⟩
    rcases Int.lt_or_gt_of_ne hne with h3 | h3
    · exact .inr ⟨c, hc, hlc, hyc, hxc, h3⟩
    · exact .inl ⟨c, hc, hlc, hxc, hyc, h3⟩
  · intro hh
    obtain ⟨c, hc, hl, hxc, hyc, hne⟩ : ∃ c ∈ putT t ks x, (c.fIDs.length : Int) ≤ n ∧ x ∈ c.fIDs ∧ y ∈ c.fIDs ∧ y ≠ x := by
      rcases hh with ⟨c, hc, hl, h3, h4, h5⟩ | ⟨c, hc, hl, h3, h4, h5⟩
      · exact ⟨c, hc, hl, h3, h4, by dsimp only at h5; omega⟩
      · exact ⟨c, hc, hl, h4, h3, by dsimp only at h5; omega⟩
    have hk : c.fKey ∈ ks := by
      rcases mem_putT.1 ((mem_block h2 hc).2 hxc) with h3 | h3
      · exact absurd h3 (not_mem hx _)
      · exact h3.1
    obtain ⟨b, hb, he, hyb⟩ : mem t c.fKey y := by
      rcases mem_putT.1 ((mem_block h2 hc).2 hyc) with h3 | h3
      · exact h3
      · exact absurd h3.2 hne
    have e := put_block h h2 hx hb hc he hk
    refine ⟨b, hb, by rw [he]; exact hk, ?_, hyb⟩
    rw [e, insI_len] at hl; omega
def nrB (t : List SBlock) (n : Int) (s : List UInt8) : List Int := t.flatMap fun b => if b.fKey = s ∧ (b.fIDs.length : Int) < n then b.fIDs else []
def nrL (t : List SBlock) (n : Int) (ks : List (List UInt8)) : List Int := ks.flatMap (nrB t n)
theorem nrL_snoc {t : List SBlock} {n : Int} {ks : List (List UInt8)} {s : List UInt8} : nrL t n (ks ++ [s]) = nrL t n ks ++ nrB t n s := by simp [nrL]
theorem nrL_mem {t : List SBlock} {n y : Int} {ks : List (List UInt8)} : y ∈ nrL t n ks ↔ nearP t ks n y := by
  unfold nrL nrB nearP
  simp only [List.mem_flatMap]
  constructor
  · rintro ⟨s, hs, b, hb, hy⟩
    split at hy
    · rename_i h; exact ⟨b, hb, by rw [h.1]; exact hs, h.2, hy⟩
    · cases hy
  · rintro ⟨b, hb, hk, hl, hy⟩
    exact ⟨b.fKey, hk, b, hb, by rw [if_pos ⟨rfl, hl⟩]; exact hy⟩
def nearT (t : List SBlock) (n : Int) (ks : List (List UInt8)) : List Int := cmpct (isort intLt (nrL t n ks))
theorem nearT_asc {t : List SBlock} {n : Int} {ks : List (List UInt8)} : AscI (nearT t n ks) := sorted_int _
theorem nearT_mem {t : List SBlock} {n y : Int} {ks : List (List UInt8)} : y ∈ nearT t n ks ↔ nearP t ks n y := by unfold nearT; rw [sorted_int_mem, nrL_mem]
theorem nrB_split {t a b : List SBlock} {n : Int} {s : List UInt8} (h : VT t) (ht : t = a ++ b) (h1 : ∀ c ∈ a, c.fKey < s) (h2 : ∀ c ∈ b, ¬ c.fKey < s) : nrB t n s = match b with | [] => [] | c :: _ => if c.fKey = s ∧ (c.fIDs.length : Int) < n then c.fIDs else [] := by
  have hnil : ∀ l : List SBlock, (∀ c ∈ l, c.fKey ≠ s) → (l.flatMap fun b => if b.fKey = s ∧ (b.fIDs.length : Int) < n then b.fIDs else []) = [] := by
    intro l hl
    rw [List.flatMap_eq_nil_iff]
    intro c hc
    rw [if_neg (fun hh => hl c hc hh.1)]
  unfold nrB
  subst ht
  rw [List.flatMap_append, hnil a (fun c hc e => by have := h1 c hc; rw [e] at this; exact List.lt_irrefl _ this), List.nil_append]
  cases b with
  | nil => rfl
  | cons c b' =>
    rw [List.flatMap_cons, hnil b' (fun d hd e => ?_), List.append_nil]
    have ha := h.a
    rw [List.map_append] at ha
    have ha := List.pairwise_append.1 ha
    have h3 := (List.pairwise_cons.1 ha.2.1).1 d.fKey (List.mem_map.2 ⟨d, hd, rfl⟩)
    rw [e] at h3
    exact h2 c (by simp) h3
theorem nrB_len {t : List SBlock} {n : Int} {s : List UInt8} (h : VT t) (hb : TBn t 400) : (nrB t n s).length ≤ 400 := by
  obtain ⟨a, b, e, h1, h2, _⟩ := find_ok (s := s) (t := t) (by have := hb.n; omega) h.a
  rw [nrB_split h e h1 h2]
  cases b with
  | nil => simp
  | cons c b' =>
    show (if c.fKey = s ∧ (c.fIDs.length : Int) < n then c.fIDs else []).length ≤ 400
    split
    · exact hb.i c (by rw [e]; simp)
    · simp
theorem nrL_len {t : List SBlock} {n : Int} (h : VT t) (hb : TBn t 400) : ∀ {ks : List (List UInt8)}, (nrL t n ks).length ≤ 400 * ks.length
  | [] => by simp [nrL]
  | s :: ks => by
    have h1 := nrB_len (n := n) (s := s) h hb
    have h2 := nrL_len (n := n) h hb (ks := ks)
    show (nrB t n s ++ nrL t n ks).length ≤ _
    rw [List.length_append, List.length_cons]; omega
def nearR (t : List SBlock) (f : SFeatures) (n : Int) : List Int × Int :=
  if (!tabB t || !fv f) = true then ([], 1) else if hasT t f.fID = true then ([], 10) else if n < 2 ∨ 1000 < n then ([], 2) else (nearT t n (keys f), 0)
theorem Near_ok {t : List SBlock} {f : SFeatures} {n : Int} (ht : TBn t 400) (hf : FOk f) : m_block_Near FU t f n = some (nearR t f n) := by
  have htb : TB t := ht.tb (by omega)
  unfold m_block_Near nearR
  have h0 : m_feature_Valid FU (⟨f.fID, f.fTitle, f.fAuthor, f.fYears, f.fIsbns, f.fLangs, f.fPublisher, f.fEdition⟩ : SFeatures) = some (fv f) := feature_ok hf (by decide)
  have h4 : m_block_Keys FU (⟨f.fID, f.fTitle, f.fAuthor, f.fYears, f.fIsbns, f.fLangs, f.fPublisher, f.fEdition⟩ : SFeatures) = some (keys f) := keys_ok hf
  rw [bval_ok htb, Option.bind_some, h0, bhas_ok htb, h4]
  cases h1 : tabB t with
  | false => simp
  | true =>
    cases h2 : fv f with
    | false => simp
    | true =>
      simp only [Bool.not_true, Bool.not_false, if_true, Option.bind_some, Bool.or_self, Bool.false_eq_true, if_false]
      cases h3 : hasT t f.fID with
      | true => rfl
      | false =>
        simp only [Bool.false_eq_true, if_false]
        by_cases hr : n < 2 ∨ 1000 < n
        · rw [if_pos (by simpa using hr), if_pos hr]
        · rw [if_neg (by simpa using hr), if_neg hr]
          have hv := tabB_iff.1 h1
          have hk := keys_len f
          have e : iter FU (fun s => m_block_Near_L1 FU t n (keys f) s.1 s.2) ((0 : Int), ([] : List Int)) = some (nrL t n (keys f)) := by
            refine iter_to (f := fun s => m_block_Near_L1 FU t n (keys f) s.1 s.2) (fun j => ((j : Int), nrL t n ((keys f).take j))) (keys f).length FU _ (fun j hj => ?_) ?_ (by simp only [FU]; omega) rfl
            · simp only [m_block_Near_L1]
              have hl := nrL_len (n := n) hv ht (ks := (keys f).take j)
              rw [List.length_take] at hl
              rw [if_pos (decide_eq_true (by omega)), ixL hj, Option.bind_some, wadd1 hj (by simp only [ML]; omega), take_snocL hj, nrL_snoc]
              obtain ⟨a, b, e, g1, g2, g3⟩ := find_ok (s := (keys f)[j]) (t := t) (by have := ht.n; omega) hv.a
              rw [g3, Option.bind_some, nrB_split hv e g1 g2]
              dsimp only
              cases b with
              | nil =>
                rw [show hdK [] (keys f)[j] = false from rfl]
                simp
              | cons c b' =>
                have hx : ix t (a.length : Int) = some c := by rw [e, ixL (by simp)]; simp
                have hcl := ht.i c (by rw [e]; simp)
                by_cases hc : c.fKey = (keys f)[j]
                · rw [show hdK (c :: b') (keys f)[j] = true by simp [hdK, hc], if_pos rfl, hx, Option.bind_some, Bool.true_and]
                  by_cases hl2 : (c.fIDs.length : Int) < n
                  · rw [if_pos (decide_eq_true hl2), Option.bind_some, app_eq (by omega) (by omega), Option.bind_some, Option.bind_some]
                    simp only [hc, hl2, and_self, if_true]
                  · rw [if_neg (by simpa using hl2), Option.bind_some]
                    simp only [hl2, and_false, if_false, List.append_nil]
                · rw [show hdK (c :: b') (keys f)[j] = false by simp [hdK, hc]]
                  simp [hc]
            · simp only [m_block_Near_L1]; rw [if_neg (by simp), List.take_length]
          have hl := nrL_len (n := n) hv ht (ks := keys f)
          rw [e, Option.bind_some]
          unfold m_slices_Sort_int_int
          rw [if_pos (by omega), Option.bind_some, compact_int (by rw [(isort_perm _ _).length_eq]; omega) (by simp [FU])]
          rfl
def othL (x : Int) (l : List SPair) : List Int := l.flatMap fun p => (if p.fA = x then [p.fB] else []) ++ (if p.fB = x then [p.fA] else [])
theorem oth_mem {x y : Int} {l : List SPair} : y ∈ othL x l ↔ (⟨x, y⟩ : SPair) ∈ l ∨ (⟨y, x⟩ : SPair) ∈ l := by
  unfold othL
  simp only [List.mem_flatMap, List.mem_append]
  constructor
  · rintro ⟨p, hp, h | h⟩
    · split at h
      · rename_i e
        rw [List.mem_singleton] at h
        subst h; subst e; exact .inl hp
      · cases h
    · split at h
      · rename_i e
        rw [List.mem_singleton] at h
        subst h; subst e; exact .inr hp
      · cases h
  · rintro (h | h)
    · exact ⟨_, h, .inl (by simp)⟩
    · exact ⟨_, h, .inr (by simp)⟩
end
end Go.Proofs.YtkdefjliknpliaaGreatDoor.Ab
