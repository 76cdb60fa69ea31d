/- Plain laws, joined. Conditions: none. -/
import Derived.Test.YtjinohfopjlgkaaSc
import Derived.Test.YtjinohfopjlgkaaPl
namespace Go.Proofs.Ytjinohfopjlgkaa.Ab
section
/- The example, and lists of blocks put together. Conditions: none. -/
open Go
theorem awake42 : m_law42_awake FU = some true := by decide +kernel
theorem take_flat {α : Type} {L : List (List α)} {j : Nat} (h : j < L.length) : (L.take (j + 1)).flatten = (L.take j).flatten ++ L.getD j [] := by
  rw [List.take_add_one, List.flatten_append]
  simp [h]
theorem take_flat_len {α : Type} {L : List (List α)} (j : Nat) : (L.take j).flatten.length ≤ L.flatten.length := by
  have : L.flatten = (L.take j).flatten ++ (L.drop j).flatten := by rw [← List.flatten_append, List.take_append_drop]
  rw [this, List.length_append]; omega
theorem growM_some {b : Nat} {α : Type} {n : Nat} (h : n * b ≤ 140737488355328) (h2 : n ≤ 4611686018427387904) : growM b α (n : Int) = some [] := by
  unfold growM; rw [if_pos ⟨by omega, by rw [← Int.natCast_mul]; omega, by omega⟩]
theorem concat_items {n : Nat} {L : List (List SItem)} (h1 : L.length ≤ 1000000) (h2 : L.flatten.length ≤ 1000000) (hn : 1000000 < n) : m_slices_Concat_rangeindex_Item_rangeindex_Item n L = some L.flatten := by
  have q1 : iter n (fun s => m_slices_Concat_rangeindex_Item_rangeindex_Item_L1 n L s.1 s.2) ((0 : Int), (0 : Int)) = some (L.flatten.length : Int) := by
    refine iter_to (fun j => (((L.take j).flatten.length : Int), (j : Int))) L.length n _ (fun j hj => ?_) ?_ (by omega) (by simp)
    · have e := congrArg List.length (take_flat hj)
      have l1 := take_flat_len (L := L) (j + 1)
      rw [List.length_append] at e
      simp only [m_slices_Concat_rangeindex_Item_rangeindex_Item_L1]
      rw [if_pos (by simp; omega), ix_get [] hj, Option.bind_some, w64 (x := ((L.take j).flatten.length : Int) + ((L.getD j []).length : Int)) (by omega) (by omega), if_neg (by simp; omega), wadd1 hj (Nat.le_trans h1 (by decide)), e]
      simp
    · simp [m_slices_Concat_rangeindex_Item_rangeindex_Item_L1]
  have q2 : iter n (fun s => m_slices_Concat_rangeindex_Item_rangeindex_Item_L2 n L s.1 s.2) ((0 : Int), ([] : List SItem)) = some L.flatten := by
    refine iter_to (fun j => ((j : Int), (L.take j).flatten)) L.length n _ (fun j hj => ?_) ?_ (by omega) (by simp)
    · have e := take_flat hj
      have l1 := take_flat_len (L := L) (j + 1)
      rw [e, List.length_append] at l1
      simp only [m_slices_Concat_rangeindex_Item_rangeindex_Item_L2]
      rw [if_pos (by simp; omega), ix_get [] hj, Option.bind_some, app_eq (by omega) (by omega), Option.bind_some, wadd1 hj (Nat.le_trans h1 (by decide)), e]
    · simp [m_slices_Concat_rangeindex_Item_rangeindex_Item_L2]
  unfold m_slices_Concat_rangeindex_Item_rangeindex_Item
  rw [q1, Option.bind_some, growM_some (by omega) (by omega), Option.bind_some, q2]; rfl
end
section
/- Searching by halves. Conditions: none. -/
open Go
/-- What is ahead of what. -/
def LtI (x y : SItem) : Prop := x.fN < y.fN ∨ (x.fN = y.fN ∧ x.fDoc < y.fDoc)
instance (x y : SItem) : Decidable (LtI x y) := by unfold LtI; exact inferInstance
theorem cfC_neg {x y : SItem} : cfC x y < 0 ↔ LtI x y := by
  have h := cfC_lt (x := x) (y := y)
  unfold Go.Proofs.ltOf at h
  rw [Bool.eq_iff_iff, decide_eq_true_iff, decide_eq_true_iff] at h
  exact h
theorem LtI.trans {x y z : SItem} (h : LtI x y) (k : LtI y z) : LtI x z := by unfold LtI at *; omega
theorem LtI.irrefl {x : SItem} : ¬ LtI x x := by unfold LtI; omega
end
section
/- The block in which an item is, or would be. Conditions: none. -/
open Go
def hd (b : List SItem) : SItem := b.getD 0 default
end
section
/- What Valid reports. Conditions: none. -/
open Go
def rightI (x : SItem) : Bool := decide (0 ≤ x.fN) && decide (x.fN ≤ 1000000000000) && decide (1 ≤ x.fDoc) && decide (x.fDoc ≤ 1000000000)
def badS (B : List (List SItem)) (j : Nat) : Bool := decide ((B.getD j []).length < 1) || decide (32 < (B.getD j []).length) || (decide (0 < j) && decide ((B.getD (j - 1) []).length + (B.getD j []).length < 17))
def badO (l : List SItem) (j : Nat) : Bool := !rightI (l.getD j default) || (decide (0 < j) && !decide (LtI (l.getD (j - 1) default) (l.getD j default)))
theorem valid_raw {n : Nat} {B : List (List SItem)} (h1 : B.length ≤ 1000000) (h2 : B.flatten.length ≤ 1000000) (hn : 1000000 < n) :
    m_rangeindex_Valid n ⟨B⟩ = some (!anyN B.length (badS B) && !anyN B.flatten.length (badO B.flatten)) := by
  have hbl : ∀ j, (B.getD j []).length ≤ 1000000 := fun j => by
    by_cases hj : j < B.length
    · have e := congrArg List.length (take_flat hj)
      have l1 := take_flat_len (L := B) (j + 1)
      rw [List.length_append] at e; omega
    · simp [List.getD_eq_getElem?_getD, List.getElem?_eq_none (by omega : B.length ≤ j)]
  have q1 : iter n (fun s => m_rangeindex_Valid_L1 n ⟨B⟩ s) (0 : Int) = some (if anyN B.length (badS B) = true then .inl false else .inr ()) := by
    refine iter_any B.length n (badS B) _ _ (fun j hj => ?_) (by simp [m_rangeindex_Valid_L1]) (by omega)
    have hb := hbl j
    have hb2 := hbl (j - 1)
    simp only [m_rangeindex_Valid_L1]
    rw [if_pos (by simp; omega), ix_get [] hj, Option.bind_some]
    generalize hv : B.getD j [] = v at *
    by_cases hs : v.length < 1 ∨ 32 < v.length
    · have e1 : (decide ((v.length : Int) < 1) || decide ((32 : Int) < (v.length : Int))) = true := by simp; omega
      have e2 : badS B j = true := by unfold badS; rw [hv]; rcases hs with h | h <;> simp [h, -List.getD_eq_getElem?_getD]
      rw [e1, e2]; rfl
    · have e1 : (decide ((v.length : Int) < 1) || decide ((32 : Int) < (v.length : Int))) = false := by simp; omega
      rw [e1]
      by_cases hj0 : 0 < j
      · have e2 : decide ((0 : Int) < (j : Int)) = true := by simp; omega
        have e3 : IntKind.i64.wrap ((j : Int) - 1) = ((j - 1 : Nat) : Int) := by rw [w64 (by omega) (by omega)]; omega
        rw [e2]
        simp only [Bool.not_false, Bool.and_self, if_true, Bool.false_or, Bool.true_and]
        rw [e3, ix_get [] (by omega), Option.bind_some, w64 (x := ((B.getD (j - 1) []).length : Int) + (v.length : Int)) (by omega) (by omega)]
        have e4 : badS B j = decide ((B.getD (j - 1) []).length + v.length < 17) := by
          have g1 : decide (v.length < 1) = false := decide_eq_false (by omega)
          have g2 : decide (32 < v.length) = false := decide_eq_false (by omega)
          have g3 : decide (0 < j) = true := decide_eq_true hj0
          unfold badS; rw [hv, g1, g2, g3]; rfl
        rw [e4]
        by_cases hc : (B.getD (j - 1) []).length + v.length < 17
        · rw [if_pos (decide_eq_true (by omega)), if_pos (decide_eq_true hc)]
        · rw [if_neg (by rw [decide_eq_false (by omega)]; decide), if_neg (by rw [decide_eq_false hc]; decide), wadd1 hj (Nat.le_trans h1 (by decide))]
      · obtain rfl : j = 0 := by omega
        have e4 : badS B 0 = false := by
          have g1 : decide (v.length < 1) = false := decide_eq_false (by omega)
          have g2 : decide (32 < v.length) = false := decide_eq_false (by omega)
          unfold badS; rw [hv, g1, g2]; rfl
        rw [e4]
        simp
        decide
  have q2 : iter n (fun s => m_rangeindex_Valid_L2 n B.flatten s) (0 : Int) = some (if anyN B.flatten.length (badO B.flatten) = true then .inl false else .inr ()) := by
    generalize B.flatten = l at h2 ⊢
    refine iter_any l.length n (badO l) _ _ (fun j hj => ?_) (by simp [m_rangeindex_Valid_L2]) (by omega)
    simp only [m_rangeindex_Valid_L2]
    rw [if_pos (decide_eq_true (by omega)), ix_get default hj, Option.bind_some]
    generalize hv : l.getD j default = v at *
    have ev : (⟨v.fN, v.fDoc⟩ : SItem) = v := rfl
    rw [ev, show m_rangeindex_item n v = some (rightI v) from rfl, Option.bind_some]
    by_cases hr : rightI v = true
    · rw [hr]
      by_cases hj0 : 0 < j
      · have e2 : decide ((0 : Int) < (j : Int)) = true := decide_eq_true (by omega)
        have e3 : IntKind.i64.wrap ((j : Int) - 1) = ((j - 1 : Nat) : Int) := by rw [w64 (by omega) (by omega)]; omega
        rw [e2]
        simp only [Bool.not_true, Bool.not_false, Bool.and_self, if_true, Bool.false_or, Bool.true_and]
        rw [e3, ix_get default (by omega), Option.bind_some, cfC_ok (by omega), Option.bind_some]
        generalize hu : l.getD (j - 1) default = u at *
        have e4 : badO l j = !decide (LtI u v) := by unfold badO; rw [hv, hu, hr, decide_eq_true hj0]; rfl
        rw [e4]
        by_cases hc : LtI u v
        · have := cfC_neg.2 hc
          rw [if_neg (by rw [decide_eq_false (by omega)]; decide), if_neg (by simp [hc]), wadd1 hj (Nat.le_trans h2 (by decide))]
        · have : ¬ cfC u v < 0 := fun q => hc (cfC_neg.1 q)
          rw [if_pos (decide_eq_true (by omega)), if_pos (by simp [hc])]
      · obtain rfl : j = 0 := by omega
        have e4 : badO l 0 = false := by unfold badO; rw [hv, hr]; rfl
        rw [e4]
        simp
        decide
    · have hr' : rightI v = false := by simpa using hr
      have e4 : badO l j = true := by unfold badO; rw [hv, hr']; rfl
      rw [hr', e4]; rfl
  unfold m_rangeindex_Valid
  rw [q1]
  cases anyN B.length (badS B) with
  | true => rfl
  | false =>
    show ((m_slices_Concat_rangeindex_Item_rangeindex_Item n B).bind _) = _
    rw [concat_items h1 h2 hn, Option.bind_some, q2]
    cases anyN B.flatten.length (badO B.flatten) <;> rfl
end
section
/- Valid, in words. Conditions: none. -/
open Go
end
section
/- Copies of lists, and lists compared. Conditions: none. -/
open Go
theorem take_one {l : List SItem} {j : Nat} (h : j < l.length) : l.take (j + 1) = l.take j ++ [l.getD j default] := by
  rw [List.take_add_one]; simp [h]
theorem ours_i {n : Nat} {l : List SItem} (h : l.length ≤ 1000000) (hn : 1000000 < n) : m_law42_ours n l = some l := by
  have q : iter n (fun s => m_law42_ours_L1 n l s.1 s.2) (([] : List SItem), (0 : Int)) = some l := by
    refine iter_to (fun j => (l.take j, (j : Int))) l.length n _ (fun j hj => ?_) ?_ (by omega) (by simp)
    · simp only [m_law42_ours_L1]
      rw [if_pos (decide_eq_true (by omega)), ix_get default hj, Option.bind_some, app_one (by simp; omega) (by simp; omega), Option.bind_some, wadd1 hj (Nat.le_trans h (by decide)), take_one hj]
    · simp [m_law42_ours_L1]
  unfold m_law42_ours
  rw [q]; rfl
theorem own_i {n : Nat} {B : List (List SItem)} (h1 : B.length ≤ 1000000) (h2 : ∀ b ∈ B, b.length ≤ 1000000) (hn : 1000000 < n) : m_law42_own n B = some ⟨B⟩ := by
  have q : iter n (fun s => m_law42_own_L1 n B s.1 s.2) ((0 : Int), ([] : List (List SItem))) = some B := by
    refine iter_to (fun j => ((j : Int), B.take j)) B.length n _ (fun j hj => ?_) ?_ (by omega) (by simp)
    · simp only [m_law42_own_L1]
      have e : B.getD j [] = B[j] := by simp [hj]
      have hm := h2 (B.getD j []) (by rw [e]; exact List.getElem_mem hj)
      have et : B.take (j + 1) = B.take j ++ [B.getD j []] := by rw [List.take_add_one]; simp [hj]
      rw [if_pos (decide_eq_true (by omega)), ix_get [] hj, Option.bind_some, ours_i hm hn, Option.bind_some, app_one (by simp; omega) (by simp; omega), Option.bind_some, wadd1 hj (Nat.le_trans h1 (by decide)), et]
    · simp [m_law42_own_L1]
  unfold m_law42_own
  rw [q]; rfl
end
section
/- A loop that stops at the first bad round, its state told by the round. Conditions: none. -/
open Go
theorem anyN_succ {m : Nat} {p : Nat → Bool} : anyN (m + 1) p = (p 0 || anyN m (fun j => p (j + 1))) := by
  unfold anyN
  rw [List.range_succ_eq_map, List.any_cons, List.any_map]; rfl
theorem iter_anyS {σ ρ : Type} {f : σ → Option (σ ⊕ ρ)} (tb te : ρ) : ∀ (m n : Nat) (st : Nat → σ) (bad : Nat → Bool),
    (∀ j, j < m → (∀ h, h < j → bad h = false) → f (st j) = some (if bad j = true then .inr tb else .inl (st (j + 1)))) → ((∀ h, h < m → bad h = false) → f (st m) = some (.inr te)) → m < n →
    iter n f (st 0) = some (if anyN m bad = true then tb else te)
  | 0, n + 1, st, bad, _, he, _ => by
    rw [iter, he (fun h hh => by omega)]; rfl
  | m + 1, n + 1, st, bad, hf, he, hn => by
    rw [iter, hf 0 (by omega) (fun h hh => by omega), anyN_succ]
    cases hb : bad 0 with
    | true => rfl
    | false =>
      have := iter_anyS (f := f) tb te m n (fun j => st (j + 1)) (fun j => bad (j + 1)) (fun j hj hh => hf (j + 1) (by omega) (fun h q => by
        rcases h with _ | h
        · exact hb
        · exact hh h (by omega))) (fun hh => he (fun h q => by
        rcases h with _ | h
        · exact hb
        · exact hh h (by omega))) (by omega)
      simpa using this
  | _, 0, _, _, _, _, hn => by omega
end
section
/- The reference's Valid. Conditions: none. -/
open Go
theorem flat_split {B : List (List SItem)} {i : Nat} (hi : i < B.length) : B.flatten = (B.take i).flatten ++ (B.getD i [] ++ (B.drop (i + 1)).flatten) := by
  have e : B = B.take i ++ B.getD i [] :: B.drop (i + 1) := by
    have : B.getD i [] = B[i] := by simp [hi]
    rw [this, List.getElem_cons_drop, List.take_append_drop]
  conv => lhs; rw [e]
  simp
theorem flat_getI {B : List (List SItem)} {i k : Nat} (hi : i < B.length) (hk : k < (B.getD i []).length) : B.flatten.getD ((B.take i).flatten.length + k) default = (B.getD i []).getD k default := by
  rw [flat_split hi, List.getD_eq_getElem?_getD, List.getElem?_append_right (by omega), Nat.add_sub_cancel_left, List.getElem?_append_left hk, ← List.getD_eq_getElem?_getD]
/-- The item ahead of a place. -/
def la (F : List SItem) (g : Nat) : SItem := if g = 0 then ⟨0, 0⟩ else F.getD (g - 1) default
theorem less_i {n : Nat} {a x : SItem} : m_ref42_Less n a x = some (decide (LtI a x)) := by
  unfold m_ref42_Less
  congr 1
  rw [Bool.eq_iff_iff]
  rw [decide_eq_true_iff]
  simp [LtI]
theorem inner_i {n i : Nat} {B : List (List SItem)} (hi : i < B.length) (hl : (B.getD i []).length ≤ 1000000) (hn : 1000000 < n) (h0 : 0 < i ↔ 0 < (B.take i).flatten.length) :
    iter n (fun s => m_ref42_Valid_L2 n B (i : Int) s.1 s.2.1 s.2.2) ((0 : Int), (la B.flatten (B.take i).flatten.length).fN, (la B.flatten (B.take i).flatten.length).fDoc) =
      some (if anyN (B.getD i []).length (fun k => badO B.flatten ((B.take i).flatten.length + k)) = true then .inl false else .inr ((la B.flatten ((B.take i).flatten.length + (B.getD i []).length)).fN, (la B.flatten ((B.take i).flatten.length + (B.getD i []).length)).fDoc)) := by
  have hg := fun k (hk : k < (B.getD i []).length) => flat_getI hi hk
  generalize hv : B.getD i [] = v at *
  generalize (B.take i).flatten.length = o at *
  generalize B.flatten = F at *
  have hix : ix B (i : Int) = some v := by rw [ix_get [] hi, hv]
  refine iter_anyS (ρ := Bool ⊕ (Int × Int)) (Sum.inl false) _ v.length n (fun k => ((k : Int), (la F (o + k)).fN, (la F (o + k)).fDoc)) _ (fun k hk _ => ?_) (fun _ => ?_) (by omega)
  · have e1 := hg k hk
    simp only [m_ref42_Valid_L2]
    rw [hix, Option.bind_some, if_pos (decide_eq_true (by omega)), Option.bind_some, ix_get default hk, Option.bind_some]
    generalize hx : v.getD k default = x at *
    have ex : (⟨x.fN, x.fDoc⟩ : SItem) = x := rfl
    have el : (⟨(la F (o + k)).fN, (la F (o + k)).fDoc⟩ : SItem) = la F (o + k) := rfl
    rw [ex, el, show m_ref42_Right n x = some (rightI x) from rfl, Option.bind_some, less_i]
    have hc : (decide ((0 : Int) < (i : Int)) || decide ((0 : Int) < (k : Int))) = decide (0 < o + k) := by
      rw [Bool.eq_iff_iff]; simp; omega
    rw [hc]
    have hla : la F (o + (k + 1)) = x := by
      unfold la; rw [if_neg (by omega), show o + (k + 1) - 1 = o + k by omega, e1]
    have hb : badO F (o + k) = (!rightI x || (decide (0 < o + k) && !decide (LtI (la F (o + k)) x))) := by
      unfold badO; rw [e1]
      by_cases h : 0 < o + k
      · unfold la; rw [if_neg (by omega)]
      · simp [h]
    rw [hb, hla]
    cases hr : rightI x <;> cases hd : decide (0 < o + k) <;> cases hlt : decide (LtI (la F (o + k)) x) <;> simp <;> (try rw [wadd1 hk (Nat.le_trans hl (by decide))]) <;> (try simp)
  · simp only [m_ref42_Valid_L2]
    rw [hix, Option.bind_some, if_neg (by simp)]
end
section
/- The reference's Valid, whole. Conditions: none. -/
open Go
def badB (B : List (List SItem)) (i : Nat) : Bool := badS B i || anyN (B.getD i []).length (fun k => badO B.flatten ((B.take i).flatten.length + k))
theorem ref_valid {n : Nat} {B : List (List SItem)} (h1 : B.length ≤ 1000000) (h2 : B.flatten.length ≤ 1000000) (hn : 1000000 < n) : m_ref42_Valid n B = some (!anyN B.length (badB B)) := by
  have q : iter n (fun s => m_ref42_Valid_L1 n B s.1 s.2.1 s.2.2) ((0 : Int), (0 : Int), (0 : Int)) =
      some (if anyN B.length (badB B) = true then .inl false else .inr ((la B.flatten B.flatten.length).fN, (la B.flatten B.flatten.length).fDoc)) := by
    refine iter_anyS (ρ := Bool ⊕ (Int × Int)) (Sum.inl false) _ B.length n (fun i => ((i : Int), (la B.flatten (B.take i).flatten.length).fN, (la B.flatten (B.take i).flatten.length).fDoc)) _ (fun i hi hh => ?_) (fun _ => ?_) (by omega)
    · have hpos : 0 < i ↔ 0 < (B.take i).flatten.length := by
        constructor
        · intro h
          have hb := hh 0 h
          unfold badB badS at hb
          simp only [Bool.or_eq_false_iff, decide_eq_false_iff_not] at hb
          have e : (B.take 1).flatten.length = ((B.take 0).flatten ++ B.getD 0 []).length := congrArg List.length (take_flat (L := B) (j := 0) (by omega))
          have l1 := take_flat_len (L := B.take i) 1
          rw [List.take_take, Nat.min_eq_left (by omega)] at l1
          rw [List.length_append] at e
          omega
        · intro h
          rcases i with _ | i
          · simp at h
          · omega
      have hlen : (B.getD i []).length ≤ 1000000 := by
        have e := congrArg List.length (take_flat hi)
        have l1 := take_flat_len (L := B) (i + 1)
        rw [List.length_append] at e; omega
      have hin := inner_i hi hlen hn hpos
      have htk : (B.take (i + 1)).flatten.length = (B.take i).flatten.length + (B.getD i []).length := by rw [take_flat hi, List.length_append]
      have hb2 : (B.getD (i - 1) []).length ≤ 1000000 := by
        have hi1 : i - 1 < B.length := by omega
        have e := congrArg List.length (take_flat hi1)
        have l1 := take_flat_len (L := B) (i - 1 + 1)
        rw [List.length_append] at e; omega
      simp only [m_ref42_Valid_L1]
      rw [if_pos (decide_eq_true (by omega)), ix_get [] hi, Option.bind_some, hin, htk]
      unfold badB badS
      generalize B.getD i [] = v at *
      generalize anyN v.length _ = a
      by_cases a1 : v.length < 1
      · obtain rfl : v = [] := List.eq_nil_of_length_eq_zero (by omega)
        clear hin
        simp
      · have e1 : ¬ ((v.length : Int) < 1) := by omega
        by_cases a2 : 32 < v.length
        · have e2 : (32 : Int) < (v.length : Int) := by omega
          have e7 : ¬ (v.length : Int) ≤ 32 := by omega
          simp [a1, e1, a2, e2, e7]
        · have e2 : ¬ (32 : Int) < (v.length : Int) := by omega
          have e6 : (v.length : Int) ≤ 32 := by omega
          by_cases hj0 : 0 < i
          · have e4 : (0 : Int) < (i : Int) := by omega
            have e3 : IntKind.i64.wrap ((i : Int) - 1) = ((i - 1 : Nat) : Int) := by rw [w64 (by omega) (by omega)]; omega
            have hx := ix_get (l := B) (i := i - 1) [] (by omega)
            generalize B.getD (i - 1) [] = u at *
            have ew : IntKind.i64.wrap ((u.length : Int) + (v.length : Int)) = (u.length : Int) + (v.length : Int) := w64 (by omega) (by omega)
            by_cases a3 : u.length + v.length < 17
            · have e5 : (u.length : Int) + (v.length : Int) < 17 := by omega
              simp [a1, e1, a2, e2, e6, hj0, e4, e3, hx, ew, a3, e5]
            · have e5 : ¬ (u.length : Int) + (v.length : Int) < 17 := by omega
              have ei := wadd1 hi (Nat.le_trans h1 (by decide))
              cases a <;> simp [a1, e1, a2, e2, e6, hj0, e4, e3, hx, ew, a3, e5, ei]
          · have e4 : ¬ (0 : Int) < (i : Int) := by omega
            have ei := wadd1 hi (Nat.le_trans h1 (by decide))
            cases a <;> simp [a1, e1, a2, e2, e6, hj0, e4, ei]
    · simp [m_ref42_Valid_L1]
  unfold m_ref42_Valid
  rw [q]
  cases anyN B.length (badB B) <;> rfl
end
section
/- The law RangeValid in plain Lean. Conditions: none. -/
open Go
theorem ex_flat {B : List (List SItem)} {p : Nat → Bool} : ∀ m, m ≤ B.length → ((∃ g, g < (B.take m).flatten.length ∧ p g = true) ↔ ∃ i, i < m ∧ ∃ k, k < (B.getD i []).length ∧ p ((B.take i).flatten.length + k) = true)
  | 0, _ => by simp
  | m + 1, h => by
    have ih := ex_flat (B := B) (p := p) m (by omega)
    have e : (B.take (m + 1)).flatten.length = (B.take m).flatten.length + (B.getD m []).length := by rw [take_flat (show m < B.length by omega), List.length_append]
    rw [e]
    constructor
    · rintro ⟨g, hg, hp⟩
      by_cases hlt : g < (B.take m).flatten.length
      · obtain ⟨i, hi, k, hk, hq⟩ := ih.1 ⟨g, hlt, hp⟩
        exact ⟨i, by omega, k, hk, hq⟩
      · exact ⟨m, by omega, g - (B.take m).flatten.length, by omega, by rw [Nat.add_sub_cancel' (by omega)]; exact hp⟩
    · rintro ⟨i, hi, k, hk, hq⟩
      by_cases him : i < m
      · obtain ⟨g, hg, hp⟩ := ih.2 ⟨i, him, k, hk, hq⟩
        exact ⟨g, by omega, hp⟩
      · obtain rfl : i = m := by omega
        exact ⟨_, by omega, hq⟩
theorem valid_same {B : List (List SItem)} : (!anyN B.length (badB B)) = (!anyN B.length (badS B) && !anyN B.flatten.length (badO B.flatten)) := by
  have h := ex_flat (B := B) (p := badO B.flatten) B.length (Nat.le_refl _)
  rw [List.take_length] at h
  rw [Bool.eq_iff_iff]
  simp only [Bool.not_eq_true', Bool.and_eq_true, anyN_f]
  constructor
  · intro hb
    refine ⟨fun i hi => ?_, fun g hg => ?_⟩
    · have := hb i hi
      unfold badB at this
      rw [Bool.or_eq_false_iff] at this
      exact this.1
    · cases hc : badO B.flatten g with
      | false => rfl
      | true =>
        obtain ⟨i, hi, k, hk, hq⟩ := h.1 ⟨g, hg, hc⟩
        have := hb i hi
        unfold badB at this
        rw [Bool.or_eq_false_iff, anyN_f] at this
        rw [this.2 k hk] at hq; cases hq
  · rintro ⟨hs, ho⟩ i hi
    unfold badB
    rw [hs i hi, Bool.false_or, anyN_f]
    intro k hk
    cases hc : badO B.flatten ((B.take i).flatten.length + k) with
    | false => rfl
    | true =>
      obtain ⟨g, hg, hp⟩ := h.2 ⟨i, hi, k, hk, hc⟩
      rw [ho g hg] at hp; cases hp
theorem flat_le {B : List (List SItem)} {c : Nat} : (∀ b ∈ B, b.length ≤ c) → B.flatten.length ≤ B.length * c := by
  induction B with
  | nil => simp
  | cons b B ih =>
    intro h
    have h1 := h b (List.mem_cons_self ..)
    have h2 := ih (fun y hy => h y (List.mem_cons_of_mem _ hy))
    rw [List.flatten_cons, List.length_append, List.length_cons, Nat.succ_mul]; omega
theorem fuL : 1000000 < FU := by decide
theorem plain_RangeValid {B : List (List SItem)} (hl : B.length ≤ ML) : m_law42_RangeValid FU B = some true := by
  unfold m_law42_RangeValid
  rw [awake42, Option.bind_some, if_neg (by decide)]
  by_cases h8 : 8 < B.length
  · rw [if_pos (decide_eq_true (by omega))]
  · rw [if_neg (by simp; omega)]
    have q : iter FU (fun s => m_law42_RangeValid_L1 FU B s) (0 : Int) = some (if anyN B.length (fun j => decide (40 < (B.getD j []).length)) = true then .inl true else .inr ()) := by
      refine iter_any B.length FU _ _ _ (fun j hj => ?_) (by simp [m_law42_RangeValid_L1]) (by have := fuL; omega)
      simp only [m_law42_RangeValid_L1]
      rw [if_pos (decide_eq_true (by omega)), ix_get [] hj, Option.bind_some]
      by_cases hc : 40 < (B.getD j []).length
      · rw [if_pos (decide_eq_true (by omega)), if_pos (decide_eq_true hc)]
      · rw [if_neg (by rw [decide_eq_false (by omega)]; decide), if_neg (by rw [decide_eq_false hc]; decide), wadd1 hj hl]
    rw [q]
    cases hb : anyN B.length (fun j => decide (40 < (B.getD j []).length)) with
    | true => rfl
    | false =>
      have h40 : ∀ b ∈ B, b.length ≤ 40 := fun b hm => by
        obtain ⟨i, hi, rfl⟩ := List.getElem_of_mem hm
        have := anyN_f.1 hb i hi
        have e : B.getD i [] = B[i] := by simp [hi]
        rw [e] at this
        have := of_decide_eq_false this
        omega
      have hf := flat_le h40
      show ((m_law42_own FU B).bind _) = _
      rw [own_i (by omega) (fun b hm => by have := h40 b hm; omega) fuL, Option.bind_some, valid_raw (by omega) (by omega) fuL, Option.bind_some, ref_valid (by omega) (by omega) fuL, Option.bind_some, valid_same]
      simp
end
end Go.Proofs.Ytjinohfopjlgkaa.Ab
