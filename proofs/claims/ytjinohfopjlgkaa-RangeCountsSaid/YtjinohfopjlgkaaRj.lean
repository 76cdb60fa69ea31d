/- Plain laws, joined. Conditions: none. -/
import Derived.Test.YtjinohfopjlgkaaSc
import Derived.Test.YtjinohfopjlgkaaPl
namespace Go.Proofs.Ytjinohfopjlgkaa.Ab
section
/- The example, and lists of blocks put together. Conditions: none. -/
open Go
theorem awake42 : m_law42_awake FU = some true := by decide +kernel
theorem take_flat {α : Type} {L : List (List α)} {j : Nat} (h : j < L.length) : (L.take (j + 1)).flatten = (L.take j).flatten ++ L.getD j [] := by
  rw [List.take_add_one, List.flatten_append]
  simp [h]
theorem take_flat_len {α : Type} {L : List (List α)} (j : Nat) : (L.take j).flatten.length ≤ L.flatten.length := by
  have : L.flatten = (L.take j).flatten ++ (L.drop j).flatten := by rw [← List.flatten_append, List.take_append_drop]
  rw [this, List.length_append]; omega
theorem growM_some {b : Nat} {α : Type} {n : Nat} (h : n * b ≤ 140737488355328) (h2 : n ≤ 4611686018427387904) : growM b α (n : Int) = some [] := by
  unfold growM; rw [if_pos ⟨by omega, by rw [← Int.natCast_mul]; omega, by omega⟩]
theorem concat_items {n : Nat} {L : List (List SItem)} (h1 : L.length ≤ 1000000) (h2 : L.flatten.length ≤ 1000000) (hn : 1000000 < n) : m_slices_Concat_rangeindex_Item_rangeindex_Item n L = some L.flatten := by
  have q1 : iter n (fun s => m_slices_Concat_rangeindex_Item_rangeindex_Item_L1 n L s.1 s.2) ((0 : Int), (0 : Int)) = some (L.flatten.length : Int) := by
    refine iter_to (fun j => (((L.take j).flatten.length : Int), (j : Int))) L.length n _ (fun j hj => ?_) ?_ (by omega) (by simp)
    · have e := congrArg List.length (take_flat hj)
      have l1 := take_flat_len (L := L) (j + 1)
      rw [List.length_append] at e
      simp only [m_slices_Concat_rangeindex_Item_rangeindex_Item_L1]
      rw [if_pos (by simp; omega), ix_get [] hj, Option.bind_some, w64 (x := ((L.take j).flatten.length : Int) + ((L.getD j []).length : Int)) (by omega) (by omega), if_neg (by simp; omega), wadd1 hj (Nat.le_trans h1 (by decide)), e]
      simp
    · simp [m_slices_Concat_rangeindex_Item_rangeindex_Item_L1]
  have q2 : iter n (fun s => m_slices_Concat_rangeindex_Item_rangeindex_Item_L2 n L s.1 s.2) ((0 : Int), ([] : List SItem)) = some L.flatten := by
    refine iter_to (fun j => ((j : Int), (L.take j).flatten)) L.length n _ (fun j hj => ?_) ?_ (by omega) (by simp)
    · have e := take_flat hj
      have l1 := take_flat_len (L := L) (j + 1)
      rw [e, List.length_append] at l1
      simp only [m_slices_Concat_rangeindex_Item_rangeindex_Item_L2]
      rw [if_pos (by simp; omega), ix_get [] hj, Option.bind_some, app_eq (by omega) (by omega), Option.bind_some, wadd1 hj (Nat.le_trans h1 (by decide)), e]
    · simp [m_slices_Concat_rangeindex_Item_rangeindex_Item_L2]
  unfold m_slices_Concat_rangeindex_Item_rangeindex_Item
  rw [q1, Option.bind_some, growM_some (by omega) (by omega), Option.bind_some, q2]; rfl
theorem concat_blocks {n : Nat} {L : List (List (List SItem))} (h1 : L.length ≤ 1000000) (h2 : L.flatten.length ≤ 1000000) (hn : 1000000 < n) : m_slices_Concat_rangeindex_Item_rangeindex_Itemx n L = some L.flatten := by
  have q1 : iter n (fun s => m_slices_Concat_rangeindex_Item_rangeindex_Itemx_L1 n L s.1 s.2) ((0 : Int), (0 : Int)) = some (L.flatten.length : Int) := by
    refine iter_to (fun j => (((L.take j).flatten.length : Int), (j : Int))) L.length n _ (fun j hj => ?_) ?_ (by omega) (by simp)
    · have e := congrArg List.length (take_flat hj)
      have l1 := take_flat_len (L := L) (j + 1)
      rw [List.length_append] at e
      simp only [m_slices_Concat_rangeindex_Item_rangeindex_Itemx_L1]
      rw [if_pos (by simp; omega), ix_get [] hj, Option.bind_some, w64 (x := ((L.take j).flatten.length : Int) + ((L.getD j []).length : Int)) (by omega) (by omega), if_neg (by simp; omega), wadd1 hj (Nat.le_trans h1 (by decide)), e]
      simp
    · simp [m_slices_Concat_rangeindex_Item_rangeindex_Itemx_L1]
  have q2 : iter n (fun s => m_slices_Concat_rangeindex_Item_rangeindex_Itemx_L2 n L s.1 s.2) ((0 : Int), ([] : List (List SItem))) = some L.flatten := by
    refine iter_to (fun j => ((j : Int), (L.take j).flatten)) L.length n _ (fun j hj => ?_) ?_ (by omega) (by simp)
    · have e := take_flat hj
      have l1 := take_flat_len (L := L) (j + 1)
      rw [e, List.length_append] at l1
      simp only [m_slices_Concat_rangeindex_Item_rangeindex_Itemx_L2]
      rw [if_pos (by simp; omega), ix_get [] hj, Option.bind_some, app_eq (by omega) (by omega), Option.bind_some, wadd1 hj (Nat.le_trans h1 (by decide)), e]
    · simp [m_slices_Concat_rangeindex_Item_rangeindex_Itemx_L2]
  unfold m_slices_Concat_rangeindex_Item_rangeindex_Itemx
  rw [q1, Option.bind_some, growM_some (by omega) (by omega), Option.bind_some, q2]; rfl
theorem replaced_eq {n : Nat} {B C : List (List SItem)} {i j : Nat} (hi : i ≤ B.length) (hj : j ≤ B.length) (h1 : B.length ≤ 100000) (h2 : C.length ≤ 100000) (hn : 1000000 < n) :
    m_rangeindex_replaced n ⟨B⟩ (i : Int) (j : Int) C = some ⟨B.take i ++ C ++ B.drop j⟩ := by
  unfold m_rangeindex_replaced
  rw [show slc B 0 (i : Int) = some (B.take i) by simp [slc, hi], Option.bind_some, show slc B (j : Int) (B.length : Int) = some (B.drop j) by simp [slc, hj], Option.bind_some, concat_blocks (by simp) (by simp; omega) hn, Option.bind_some]
  simp
end
section
/- Searching by halves. Conditions: none. -/
open Go
theorem bs_iter {f : Int × Int → Option ((Int × Int) ⊕ Int)} {m : Nat} {p : Nat → Bool}
    (hstep : ∀ i j : Nat, i < j → j ≤ m → f ((i : Int), (j : Int)) = some (.inl (if p ((i + j) / 2) = true then ((i : Int), (((i + j) / 2 : Nat) : Int)) else ((((i + j) / 2 + 1 : Nat) : Int), (j : Int)))))
    (hend : ∀ i : Nat, i ≤ m → f ((i : Int), (i : Int)) = some (.inr (i : Int))) :
    ∀ (d i j n : Nat), j - i ≤ d → i ≤ j → j ≤ m → d < n → (i = 0 ∨ p (i - 1) = false) → (j = m ∨ p j = true) →
      ∃ k, i ≤ k ∧ k ≤ j ∧ iter n f ((i : Int), (j : Int)) = some (k : Int) ∧ (k = 0 ∨ p (k - 1) = false) ∧ (k = m ∨ p k = true)
  | d, i, j, n, h1, h2, h3, h4, h5, h6 => by
    obtain ⟨n, rfl⟩ : ∃ q, n = q + 1 := ⟨n - 1, by omega⟩
    by_cases hij : i = j
    · subst hij
      exact ⟨i, Nat.le_refl _, Nat.le_refl _, by rw [iter, hend i h3]; rfl, h5, h6⟩
    · obtain ⟨d, rfl⟩ : ∃ q, d = q + 1 := ⟨d - 1, by omega⟩
      rw [iter, hstep i j (by omega) h3, Option.bind_some]
      by_cases hp : p ((i + j) / 2) = true
      · rw [if_pos hp]
        obtain ⟨k, k1, k2, k3, k4⟩ := bs_iter hstep hend d i ((i + j) / 2) n (by omega) (by omega) (by omega) (by omega) h5 (.inr hp)
        exact ⟨k, k1, by omega, k3, k4⟩
      · rw [if_neg hp]
        obtain ⟨k, k1, k2, k3, k4⟩ := bs_iter hstep hend d ((i + j) / 2 + 1) j n (by omega) (by omega) (by omega) (by omega) (.inr (by rw [Nat.add_sub_cancel]; simpa using hp)) h6
        exact ⟨k, by omega, k2, k3, k4⟩
/-- The place from which on p holds. -/
theorem bs_mono {p : Nat → Bool} {m k : Nat} (hmono : ∀ i j, i ≤ j → j < m → p i = true → p j = true) (hk : k ≤ m) (h1 : k = 0 ∨ p (k - 1) = false) (h2 : k = m ∨ p k = true) : (∀ i, i < k → p i = false) ∧ (∀ i, k ≤ i → i < m → p i = true) := by
  refine ⟨fun i hi => ?_, fun i hi him => ?_⟩
  · rcases h1 with h1 | h1
    · omega
    · cases hp : p i with
      | false => rfl
      | true => rw [hmono i (k - 1) (by omega) (by omega) hp] at h1; cases h1
  · rcases h2 with h2 | h2
    · omega
    · exact hmono k i hi him h2
theorem shr_half {i j : Nat} (h : i + j ≤ 1000000000) : shrM .u64 (IntKind.u64.wrap (IntKind.i64.wrap ((i : Int) + (j : Int)))) (1 : Int) = some ((((i + j) / 2 : Nat)) : Int) := by
  rw [w64 (by omega) (by omega)]
  have : IntKind.u64.wrap ((i : Int) + (j : Int)) = (i : Int) + j := by simp [IntKind.wrap, IntKind.signed, IntKind.bits]; omega
  rw [this]
  unfold shrM
  rw [if_neg (by decide), show min (1 : Int).toNat IntKind.u64.bits = 1 by decide]
  have e : ((i : Int) + j).fdiv (2 ^ 1) = ((i : Int) + j) / 2 := by rw [show (2 : Int) ^ 1 = 2 from rfl, Int.fdiv_eq_ediv_of_nonneg _ (by decide)]
  rw [e]
  congr 1
/-- What is ahead of what. -/
def LtI (x y : SItem) : Prop := x.fN < y.fN ∨ (x.fN = y.fN ∧ x.fDoc < y.fDoc)
instance (x y : SItem) : Decidable (LtI x y) := by unfold LtI; exact inferInstance
theorem cfC_neg {x y : SItem} : cfC x y < 0 ↔ LtI x y := by
  have h := cfC_lt (x := x) (y := y)
  unfold Go.Proofs.ltOf at h
  rw [Bool.eq_iff_iff, decide_eq_true_iff, decide_eq_true_iff] at h
  exact h
theorem cmpI_pos {a b : Int} : 0 < cmpI a b ↔ b < a := by unfold cmpI; split <;> (try split) <;> omega
theorem cfC_pos {x y : SItem} : 0 < cfC x y ↔ LtI y x := by
  unfold cfC LtI
  by_cases h : x.fN = y.fN
  · rw [if_pos (cmpI_zero.2 h), cmpI_pos]; omega
  · rw [if_neg (fun hc => h (cmpI_zero.1 hc)), cmpI_pos]; omega
theorem cfC_zero {x y : SItem} : cfC x y = 0 ↔ x = y := by
  constructor
  · intro h
    refine cfC_total x y ?_ ?_
    · unfold Go.Proofs.ltOf; simp [h]
    · have h1 : ¬ LtI y x := fun hc => by have := cfC_pos.2 hc; omega
      rw [cfC_lt]; exact decide_eq_false h1
  · rintro rfl
    unfold cfC
    rw [if_pos (cmpI_zero.2 rfl)]; exact cmpI_zero.2 rfl
theorem LtI.trans {x y z : SItem} (h : LtI x y) (k : LtI y z) : LtI x z := by unfold LtI at *; omega
theorem LtI.irrefl {x : SItem} : ¬ LtI x x := by unfold LtI; omega
theorem pair_get {l : List SItem} (hs : l.Pairwise LtI) {i j : Nat} (h : i < j) (hj : j < l.length) : LtI (l.getD i default) (l.getD j default) := by
  have := List.pairwise_iff_getElem.1 hs i j (by omega) hj h
  simpa [show i < l.length by omega, hj] using this
theorem bin_search {n : Nat} {l : List SItem} {x : SItem} (hl : l.length ≤ 1000000) (hn : 1000000 < n) (hs : l.Pairwise LtI) :
    ∃ k, k ≤ l.length ∧ m_slices_BinarySearchFunc_rangeindex_Item_rangeindex_Item_rangeindex_Item n l x = some ((k : Int), decide (k < l.length ∧ l.getD k default = x)) ∧ (∀ i, i < k → LtI (l.getD i default) x) ∧ (∀ i, k ≤ i → i < l.length → ¬ LtI (l.getD i default) x) := by
  let p : Nat → Bool := fun i => decide (¬ LtI (l.getD i default) x)
  obtain ⟨k, _, k2, k3, k4, k5⟩ := bs_iter (f := fun s => m_slices_BinarySearchFunc_rangeindex_Item_rangeindex_Item_rangeindex_Item_L1 n l x s.1 s.2) (m := l.length) (p := p) (fun i j hij hj => by
      have hmid : (i + j) / 2 < l.length := by omega
      simp only [m_slices_BinarySearchFunc_rangeindex_Item_rangeindex_Item_rangeindex_Item_L1]
      rw [if_pos (by simp; omega), shr_half (by omega), Option.bind_some, w64 (x := (((i + j) / 2 : Nat) : Int)) (by omega) (by omega), ix_get default hmid, Option.bind_some, cfC_ok (by omega), Option.bind_some]
      by_cases hc : LtI (l.getD ((i + j) / 2) default) x
      · rw [if_pos (by simpa using cfC_neg.2 hc), if_neg (by simp only [p]; simpa using hc), w64 (by omega) (by omega)]; rfl
      · rw [if_neg (by simpa using fun h => hc (cfC_neg.1 h)), if_pos (by simp only [p]; simpa using hc)])
    (fun i hi => by simp [m_slices_BinarySearchFunc_rangeindex_Item_rangeindex_Item_rangeindex_Item_L1]) l.length 0 l.length n (by omega) (by omega) (Nat.le_refl _) (by omega) (.inl rfl) (.inl rfl)
  obtain ⟨m1, m2⟩ := bs_mono (p := p) (fun i j hij hj hp => by
    simp only [p, decide_eq_true_eq] at hp ⊢
    intro hc
    rcases Nat.lt_or_eq_of_le hij with h | h
    · exact hp ((pair_get hs h hj).trans hc)
    · subst h; exact hp hc) k2 k4 k5
  refine ⟨k, k2, ?_, fun i hi => ?_, fun i hi hil => ?_⟩
  · unfold m_slices_BinarySearchFunc_rangeindex_Item_rangeindex_Item_rangeindex_Item
    have k3' := k3
    rw [show (((0 : Nat) : Int), (l.length : Int)) = ((0 : Int), (l.length : Int)) from rfl] at k3'
    rw [k3', Option.bind_some]
    by_cases hk : k < l.length
    · rw [if_pos (by simpa using hk), ix_get default hk, Option.bind_some, if_pos (by simpa using hk), cfC_ok (by omega), Option.bind_some]
      simp [hk, cfC_zero]
    · rw [if_neg (by simpa using hk), Option.bind_some, if_neg (by simpa using hk), Option.bind_some]
      simp [hk]
  · have := m1 i hi
    simp only [p, decide_eq_false_iff_not, Decidable.not_not] at this; exact this
  · have := m2 i hi hil
    simp only [p, decide_eq_true_eq] at this; exact this
end
section
/- The block in which an item is, or would be. Conditions: none. -/
open Go
/-- Blocks that are not empty, of ascending items. -/
def Asc (B : List (List SItem)) : Prop := (∀ b ∈ B, b ≠ []) ∧ B.flatten.Pairwise LtI
def hd (b : List SItem) : SItem := b.getD 0 default
theorem hd_mem {b : List SItem} (h : b ≠ []) : hd b ∈ b := by
  obtain ⟨x, l, rfl⟩ := List.exists_cons_of_ne_nil h
  simp [hd]
theorem Asc.heads {B : List (List SItem)} (h : Asc B) {i j : Nat} (hij : i < j) (hj : j < B.length) : LtI (hd (B.getD i [])) (hd (B.getD j [])) := by
  have h2 := (List.pairwise_flatten.1 h.2).2
  have hi : i < B.length := by omega
  have h3 := List.pairwise_iff_getElem.1 h2 i j hi hj hij
  rw [List.getD_eq_getElem?_getD, List.getD_eq_getElem?_getD, List.getElem?_eq_getElem hi, List.getElem?_eq_getElem hj]
  exact h3 _ (hd_mem (h.1 _ (List.getElem_mem hi))) _ (hd_mem (h.1 _ (List.getElem_mem hj)))
theorem block_eq {n : Nat} {B : List (List SItem)} {x : SItem} (h : Asc B) (hl : B.length ≤ 1000000) (hn : 1000000 < n) :
    ∃ k, k ≤ B.length ∧ m_rangeindex_block n ⟨B⟩ x = some (((k - 1 : Nat)) : Int) ∧ (∀ i, i < k → ¬ LtI x (hd (B.getD i []))) ∧ (∀ i, k ≤ i → i < B.length → LtI x (hd (B.getD i []))) := by
  let p : Nat → Bool := fun i => decide (LtI x (hd (B.getD i [])))
  obtain ⟨k, _, k2, k3, k4, k5⟩ := bs_iter (f := fun s => m_sort_Search_L1 n (fun y1 => m_rangeindex_block_1 n y1 ⟨B⟩ ⟨x.fN, x.fDoc⟩) s.1 s.2) (m := B.length) (p := p) (fun i j hij hj => by
      have hmid : (i + j) / 2 < B.length := by omega
      have hb : B.getD ((i + j) / 2) [] ≠ [] := by
        rw [List.getD_eq_getElem?_getD, List.getElem?_eq_getElem hmid]; exact h.1 _ (List.getElem_mem hmid)
      have hb0 : 0 < (B.getD ((i + j) / 2) []).length := List.length_pos_iff.2 hb
      have hix : ix (B.getD ((i + j) / 2) []) (0 : Int) = some (hd (B.getD ((i + j) / 2) [])) := ix_get (i := 0) default hb0
      simp only [m_sort_Search_L1, m_rangeindex_block_1]
      rw [if_pos (by simp; omega), shr_half (by omega), Option.bind_some, w64 (x := (((i + j) / 2 : Nat) : Int)) (by omega) (by omega), ix_get [] hmid, Option.bind_some, hix, Option.bind_some, cfC_ok (by omega), Option.bind_some, Option.bind_some]
      by_cases hc : LtI x (hd (B.getD ((i + j) / 2) []))
      · have h1 : 0 < cfC (hd (B.getD ((i + j) / 2) [])) x := cfC_pos.2 hc
        rw [if_neg (by simpa using h1), if_pos (by simp only [p]; simpa using hc)]
      · have h1 : ¬ 0 < cfC (hd (B.getD ((i + j) / 2) [])) x := fun q => hc (cfC_pos.1 q)
        rw [if_pos (by simpa using h1), if_neg (by simp only [p]; simpa using hc), w64 (by omega) (by omega)]; rfl)
    (fun i hi => by simp [m_sort_Search_L1]) B.length 0 B.length n (by omega) (by omega) (Nat.le_refl _) (by omega) (.inl rfl) (.inl rfl)
  obtain ⟨m1, m2⟩ := bs_mono (p := p) (fun i j hij hj hp => by
    simp only [p, decide_eq_true_eq] at hp ⊢
    rcases Nat.lt_or_eq_of_le hij with q | q
    · exact hp.trans (h.heads q hj)
    · subst q; exact hp) k2 k4 k5
  refine ⟨k, k2, ?_, fun i hi => ?_, fun i hi hil => ?_⟩
  · unfold m_rangeindex_block m_sort_Search
    have k3' := k3
    rw [show (((0 : Nat) : Int), (B.length : Int)) = ((0 : Int), (B.length : Int)) from rfl] at k3'
    rw [k3', Option.bind_some, Option.bind_some, w64 (by omega) (by omega)]
    congr 1
    omega
  · have := m1 i hi
    simp only [p, decide_eq_false_iff_not] at this; exact this
  · have := m2 i hi hil
    simp only [p, decide_eq_true_eq] at this; exact this
end
section
/- What Valid reports. Conditions: none. -/
open Go
def rightI (x : SItem) : Bool := decide (0 ≤ x.fN) && decide (x.fN ≤ 1000000000000) && decide (1 ≤ x.fDoc) && decide (x.fDoc ≤ 1000000000)
def badS (B : List (List SItem)) (j : Nat) : Bool := decide ((B.getD j []).length < 1) || decide (32 < (B.getD j []).length) || (decide (0 < j) && decide ((B.getD (j - 1) []).length + (B.getD j []).length < 17))
def badO (l : List SItem) (j : Nat) : Bool := !rightI (l.getD j default) || (decide (0 < j) && !decide (LtI (l.getD (j - 1) default) (l.getD j default)))
theorem valid_raw {n : Nat} {B : List (List SItem)} (h1 : B.length ≤ 1000000) (h2 : B.flatten.length ≤ 1000000) (hn : 1000000 < n) :
    m_rangeindex_Valid n ⟨B⟩ = some (!anyN B.length (badS B) && !anyN B.flatten.length (badO B.flatten)) := by
  have hbl : ∀ j, (B.getD j []).length ≤ 1000000 := fun j => by
    by_cases hj : j < B.length
    · have e := congrArg List.length (take_flat hj)
      have l1 := take_flat_len (L := B) (j + 1)
      rw [List.length_append] at e; omega
    · simp [List.getD_eq_getElem?_getD, List.getElem?_eq_none (by omega : B.length ≤ j)]
  have q1 : iter n (fun s => m_rangeindex_Valid_L1 n ⟨B⟩ s) (0 : Int) = some (if anyN B.length (badS B) = true then .inl false else .inr ()) := by
    refine iter_any B.length n (badS B) _ _ (fun j hj => ?_) (by simp [m_rangeindex_Valid_L1]) (by omega)
    have hb := hbl j
    have hb2 := hbl (j - 1)
    simp only [m_rangeindex_Valid_L1]
    rw [if_pos (by simp; omega), ix_get [] hj, Option.bind_some]
    generalize hv : B.getD j [] = v at *
    by_cases hs : v.length < 1 ∨ 32 < v.length
    · have e1 : (decide ((v.length : Int) < 1) || decide ((32 : Int) < (v.length : Int))) = true := by simp; omega
      have e2 : badS B j = true := by unfold badS; rw [hv]; rcases hs with h | h <;> simp [h, -List.getD_eq_getElem?_getD]
      rw [e1, e2]; rfl
    · have e1 : (decide ((v.length : Int) < 1) || decide ((32 : Int) < (v.length : Int))) = false := by simp; omega
      rw [e1]
      by_cases hj0 : 0 < j
      · have e2 : decide ((0 : Int) < (j : Int)) = true := by simp; omega
        have e3 : IntKind.i64.wrap ((j : Int) - 1) = ((j - 1 : Nat) : Int) := by rw [w64 (by omega) (by omega)]; omega
        rw [e2]
        simp only [Bool.not_false, Bool.and_self, if_true, Bool.false_or, Bool.true_and]
        rw [e3, ix_get [] (by omega), Option.bind_some, w64 (x := ((B.getD (j - 1) []).length : Int) + (v.length : Int)) (by omega) (by omega)]
        have e4 : badS B j = decide ((B.getD (j - 1) []).length + v.length < 17) := by
          have g1 : decide (v.length < 1) = false := decide_eq_false (by omega)
          have g2 : decide (32 < v.length) = false := decide_eq_false (by omega)
          have g3 : decide (0 < j) = true := decide_eq_true hj0
          unfold badS; rw [hv, g1, g2, g3]; rfl
        rw [e4]
        by_cases hc : (B.getD (j - 1) []).length + v.length < 17
        · rw [if_pos (decide_eq_true (by omega)), if_pos (decide_eq_true hc)]
        · rw [if_neg (by rw [decide_eq_false (by omega)]; decide), if_neg (by rw [decide_eq_false hc]; decide), wadd1 hj (Nat.le_trans h1 (by decide))]
      · obtain rfl : j = 0 := by omega
        have e4 : badS B 0 = false := by
          have g1 : decide (v.length < 1) = false := decide_eq_false (by omega)
          have g2 : decide (32 < v.length) = false := decide_eq_false (by omega)
          unfold badS; rw [hv, g1, g2]; rfl
        rw [e4]
        simp
        decide
  have q2 : iter n (fun s => m_rangeindex_Valid_L2 n B.flatten s) (0 : Int) = some (if anyN B.flatten.length (badO B.flatten) = true then .inl false else .inr ()) := by
    generalize B.flatten = l at h2 ⊢
    refine iter_any l.length n (badO l) _ _ (fun j hj => ?_) (by simp [m_rangeindex_Valid_L2]) (by omega)
    simp only [m_rangeindex_Valid_L2]
    rw [if_pos (decide_eq_true (by omega)), ix_get default hj, Option.bind_some]
    generalize hv : l.getD j default = v at *
    have ev : (⟨v.fN, v.fDoc⟩ : SItem) = v := rfl
    rw [ev, show m_rangeindex_item n v = some (rightI v) from rfl, Option.bind_some]
    by_cases hr : rightI v = true
    · rw [hr]
      by_cases hj0 : 0 < j
      · have e2 : decide ((0 : Int) < (j : Int)) = true := decide_eq_true (by omega)
        have e3 : IntKind.i64.wrap ((j : Int) - 1) = ((j - 1 : Nat) : Int) := by rw [w64 (by omega) (by omega)]; omega
        rw [e2]
        simp only [Bool.not_true, Bool.not_false, Bool.and_self, if_true, Bool.false_or, Bool.true_and]
        rw [e3, ix_get default (by omega), Option.bind_some, cfC_ok (by omega), Option.bind_some]
        generalize hu : l.getD (j - 1) default = u at *
        have e4 : badO l j = !decide (LtI u v) := by unfold badO; rw [hv, hu, hr, decide_eq_true hj0]; rfl
        rw [e4]
        by_cases hc : LtI u v
        · have := cfC_neg.2 hc
          rw [if_neg (by rw [decide_eq_false (by omega)]; decide), if_neg (by simp [hc]), wadd1 hj (Nat.le_trans h2 (by decide))]
        · have : ¬ cfC u v < 0 := fun q => hc (cfC_neg.1 q)
          rw [if_pos (decide_eq_true (by omega)), if_pos (by simp [hc])]
      · obtain rfl : j = 0 := by omega
        have e4 : badO l 0 = false := by unfold badO; rw [hv, hr]; rfl
        rw [e4]
        simp
        decide
    · have hr' : rightI v = false := by simpa using hr
      have e4 : badO l j = true := by unfold badO; rw [hv, hr']; rfl
      rw [hr', e4]; rfl
  unfold m_rangeindex_Valid
  rw [q1]
  cases anyN B.length (badS B) with
  | true => rfl
  | false =>
    show ((m_slices_Concat_rangeindex_Item_rangeindex_Item n B).bind _) = _
    rw [concat_items h1 h2 hn, Option.bind_some, q2]
    cases anyN B.flatten.length (badO B.flatten) <;> rfl
end
section
/- Valid, in words. Conditions: none. -/
open Go
/-- The sizes of blocks are right. -/
def Sz (B : List (List SItem)) : Prop := (∀ b ∈ B, 1 ≤ b.length ∧ b.length ≤ 32) ∧ ∀ i, i + 1 < B.length → 17 ≤ (B.getD i []).length + (B.getD (i + 1) []).length
theorem badS_iff {B : List (List SItem)} : anyN B.length (badS B) = false ↔ Sz B := by
  rw [anyN_f]
  constructor
  · intro h
    refine ⟨fun b hb => ?_, fun i hi => ?_⟩
    · obtain ⟨i, hi, rfl⟩ := List.getElem_of_mem hb
      have h1 := h i hi
      unfold badS at h1
      have e : B.getD i [] = B[i] := by simp [hi]
      rw [e] at h1
      simp only [Bool.or_eq_false_iff, decide_eq_false_iff_not] at h1
      omega
    · have h1 := h (i + 1) hi
      unfold badS at h1
      simp only [Bool.or_eq_false_iff, Bool.and_eq_false_iff, decide_eq_false_iff_not, Nat.add_sub_cancel] at h1
      omega
  · rintro ⟨h1, h2⟩ i hi
    have h3 := h1 (B.getD i []) (by rw [List.getD_eq_getElem?_getD, List.getElem?_eq_getElem hi]; exact List.getElem_mem hi)
    unfold badS
    simp only [Bool.or_eq_false_iff, Bool.and_eq_false_iff, decide_eq_false_iff_not]
    refine ⟨⟨by omega, by omega⟩, ?_⟩
    by_cases h0 : 0 < i
    · have := h2 (i - 1) (by omega)
      rw [Nat.sub_add_cancel h0] at this
      right; omega
    · left; omega
theorem badO_iff {l : List SItem} : anyN l.length (badO l) = false ↔ (∀ x ∈ l, rightI x = true) ∧ l.Pairwise LtI := by
  rw [anyN_f]
  constructor
  · intro h
    refine ⟨fun x hx => ?_, ?_⟩
    · obtain ⟨i, hi, rfl⟩ := List.getElem_of_mem hx
      have h1 := h i hi
      unfold badO at h1
      have e : l.getD i default = l[i] := by simp [hi]
      rw [e] at h1
      simp only [Bool.or_eq_false_iff, Bool.not_eq_false'] at h1
      exact h1.1
    · rw [List.pairwise_iff_getElem]
      have step : ∀ i (hi : i + 1 < l.length), LtI l[i] l[i + 1] := fun i hi => by
        have h1 := h (i + 1) hi
        unfold badO at h1
        have e : l.getD (i + 1) default = l[i + 1] := by simp [hi]
        have e' : l.getD i default = l[i] := by simp [show i < l.length by omega]
        rw [Nat.add_sub_cancel, e, e'] at h1
        simp at h1
        exact h1.2
      intro i j hi hj hij
      obtain ⟨d, rfl⟩ : ∃ d, j = i + 1 + d := ⟨j - i - 1, by omega⟩
      clear hij
      induction d with
      | zero => exact step i hj
      | succ d ih => exact (ih (by omega)).trans (step (i + 1 + d) hj)
  · rintro ⟨h1, h2⟩ i hi
    have e : l.getD i default = l[i] := by simp [hi]
    unfold badO
    rw [e, h1 _ (List.getElem_mem hi)]
    by_cases h0 : 0 < i
    · have e' : l.getD (i - 1) default = l[i - 1] := by simp [show i - 1 < l.length by omega]
      have := List.pairwise_iff_getElem.1 h2 (i - 1) i (by omega) hi (by omega)
      rw [e']; simp [this]
    · simp [h0]
end
section
/- Copies of lists, and lists compared. Conditions: none. -/
open Go
theorem clone_i {n : Nat} {l : List SItem} (h : l.length ≤ 1000000) : m_slices_Clone_rangeindex_Item_rangeindex_Item n l = some l := by
  unfold m_slices_Clone_rangeindex_Item_rangeindex_Item
  rw [app_eq (by simp; omega) (by simp; omega), Option.bind_some, List.nil_append]
theorem take_one {l : List SItem} {j : Nat} (h : j < l.length) : l.take (j + 1) = l.take j ++ [l.getD j default] := by
  rw [List.take_add_one]; simp [h]
theorem items_i {n : Nat} {B : List (List SItem)} (h1 : B.length ≤ 1000000) (h2 : B.flatten.length ≤ 1000000) (hn : 1000000 < n) : m_law42_items n ⟨B⟩ = some B.flatten := by
  have q : iter n (fun s => m_law42_items_L1 n B.flatten s.1 s.2) (([] : List SItem), (0 : Int)) = some B.flatten := by
    generalize B.flatten = l at h2 ⊢
    refine iter_to (fun j => (l.take j, (j : Int))) l.length n _ (fun j hj => ?_) ?_ (by omega) (by simp)
    · simp only [m_law42_items_L1]
      rw [if_pos (decide_eq_true (by omega)), ix_get default hj, Option.bind_some, app_one (by simp; omega) (by simp; omega), Option.bind_some, wadd1 hj (Nat.le_trans h2 (by decide)), take_one hj]
    · simp [m_law42_items_L1]
  unfold m_law42_items m_rangeindex_Items
  rw [concat_items h1 h2 hn, Option.bind_some, Option.bind_some, q]; rfl
end
section
/- A loop that stops at the first bad round, its state told by the round. Conditions: none. -/
open Go
end
section
/- The reference's Valid. Conditions: none. -/
open Go
theorem flat_split {B : List (List SItem)} {i : Nat} (hi : i < B.length) : B.flatten = (B.take i).flatten ++ (B.getD i [] ++ (B.drop (i + 1)).flatten) := by
  have e : B = B.take i ++ B.getD i [] :: B.drop (i + 1) := by
    have : B.getD i [] = B[i] := by simp [hi]
    rw [this, List.getElem_cons_drop, List.take_append_drop]
  conv => lhs; rw [e]
  simp
theorem flat_getI {B : List (List SItem)} {i k : Nat} (hi : i < B.length) (hk : k < (B.getD i []).length) : B.flatten.getD ((B.take i).flatten.length + k) default = (B.getD i []).getD k default := by
  rw [flat_split hi, List.getD_eq_getElem?_getD, List.getElem?_append_right (by omega), Nat.add_sub_cancel_left, List.getElem?_append_left hk, ← List.getD_eq_getElem?_getD]
theorem less_i {n : Nat} {a x : SItem} : m_ref42_Less n a x = some (decide (LtI a x)) := by
  unfold m_ref42_Less
  congr 1
  rw [Bool.eq_iff_iff]
  rw [decide_eq_true_iff]
  simp [LtI]
end
section
/- The reference's Valid, whole. Conditions: none. -/
open Go
end
section
/- The law RangeValid in plain Lean. Conditions: none. -/
open Go
theorem fuL : 1000000 < FU := by decide
end
end Go.Proofs.Ytjinohfopjlgkaa.Ab
