/- Plain laws, joined. Conditions: none. -/
import Derived.Test.YtjinohfopjlgkaaRj
import Derived.Test.YtjinohfopjlgkaaCp
namespace Go.Proofs.Ytjinohfopjlgkaa.Ab
section
/- What Insert does to a valid index. Conditions: none. -/
open Go
def VB (B : List (List SItem)) : Prop := Sz B ∧ (∀ x ∈ B.flatten, rightI x = true) ∧ B.flatten.Pairwise LtI
theorem VB.asc {B : List (List SItem)} (h : VB B) : Asc B := ⟨fun b hb => by
  have := (h.1.1 b hb).1
  intro e; rw [e] at this; simp at this, h.2.2⟩
theorem VB.len {B : List (List SItem)} (h : VB B) : B.length ≤ B.flatten.length := by
  have h1 := h.1.1
  clear h
  induction B with
  | nil => simp
  | cons b B ih =>
    have h2 := h1 b (List.mem_cons_self ..)
    have h3 := ih (fun y hy => h1 y (List.mem_cons_of_mem _ hy))
    rw [List.flatten_cons, List.length_append, List.length_cons]; omega
theorem valid_iff {n : Nat} {B : List (List SItem)} (h1 : B.length ≤ 1000000) (h2 : B.flatten.length ≤ 1000000) (hn : 1000000 < n) : ∃ v, m_rangeindex_Valid n ⟨B⟩ = some v ∧ (v = true ↔ VB B) :=
  ⟨_, valid_raw h1 h2 hn, by
    rw [Bool.and_eq_true, Bool.not_eq_true', Bool.not_eq_true', badS_iff, badO_iff]; exact Iff.rfl⟩
theorem valid_t {n : Nat} {B : List (List SItem)} (h : VB B) (h2 : B.flatten.length ≤ 1000000) (hn : 1000000 < n) : m_rangeindex_Valid n ⟨B⟩ = some true := by
  obtain ⟨v, h3, h4⟩ := valid_iff (B := B) (by have := h.len; omega) h2 hn
  rw [h3, h4.2 h]
theorem LtI.tot {x y : SItem} (h : ¬ LtI x y) : y = x ∨ LtI y x := by
  obtain ⟨a, b⟩ := x
  obtain ⟨c, d⟩ := y
  by_cases h2 : LtI ⟨c, d⟩ ⟨a, b⟩
  · exact .inr h2
  · left
    unfold LtI at h h2
    dsimp only at h h2
    rw [SItem.mk.injEq]
    omega
theorem split_at {α : Type} {l : List α} {i : Nat} (d : α) (h : i < l.length) : ∃ A C, l = A ++ l.getD i d :: C ∧ A.length = i :=
  ⟨l.take i, l.drop (i + 1), by
    have : l.getD i d = l[i] := by simp [h]
    rw [this, List.getElem_cons_drop, List.take_append_drop], by simp; omega⟩
theorem hd_le {b : List SItem} (h : b.Pairwise LtI) {y : SItem} (hy : y ∈ b) : y = hd b ∨ LtI (hd b) y := by
  cases b with
  | nil => cases hy
  | cons z b =>
    rcases List.mem_cons.1 hy with e | e
    · exact .inl e
    · exact .inr ((List.pairwise_cons.1 h).1 y e)
theorem find_split {n : Nat} {B : List (List SItem)} {x : SItem} (h : VB B) (h0 : B ≠ []) (hl : B.flatten.length ≤ 900000) (hn : 1000000 < n) :
    ∃ B1 p s B2, B = B1 ++ (p ++ s) :: B2 ∧ m_rangeindex_block n ⟨B⟩ x = some (B1.length : Int) ∧
      m_slices_BinarySearchFunc_rangeindex_Item_rangeindex_Item_rangeindex_Item n (p ++ s) x = some ((p.length : Int), decide (s.head? = some x)) ∧
      (∀ y ∈ B1.flatten ++ p, LtI y x) ∧ (∀ y ∈ s, ¬ LtI y x) ∧ (∀ y ∈ B2.flatten, LtI x y) := by
  have hB := h.len
  obtain ⟨k, k1, k2, k3, k4⟩ := block_eq (x := x) h.asc (by omega) hn
  have hpos : 0 < B.length := List.length_pos_iff.2 h0
  obtain ⟨B1, B2, e, hi⟩ := split_at (l := B) (i := k - 1) [] (by omega)
  have k3' := k3 (k - 1)
  generalize B.getD (k - 1) [] = b at e k3'
  have hsz := h.1.1 b (by rw [e]; simp)
  have hpw := h.2.2
  have hk4 : ∀ c ∈ B2, LtI x (hd c) := fun c hc => by
    obtain ⟨q, hq, rfl⟩ := List.getElem_of_mem hc
    have := k4 (k - 1 + 1 + q) (by omega) (by rw [e]; simp; omega)
    have e2 : B.getD (k - 1 + 1 + q) [] = B2[q] := by
      rw [e, List.getD_eq_getElem?_getD, List.getElem?_append_right (by omega), show k - 1 + 1 + q - B1.length = q + 1 by omega]
      simp [hq]
    rw [e2] at this; exact this
  rw [e] at hpw
  simp only [List.flatten_append, List.flatten_cons, List.pairwise_append] at hpw
  obtain ⟨w1, ⟨w2, w3, w4⟩, w5⟩ := hpw
  obtain ⟨j, j1, j2, j3, j4⟩ := bin_search (x := x) (l := b) (by omega) hn w2
  refine ⟨B1, b.take j, b.drop j, B2, by rw [List.take_append_drop]; exact e, by rw [k2, hi], ?_, fun y hy => ?_, fun y hy => ?_, fun y hy => ?_⟩
  · rw [List.take_append_drop, j2]
    have e1 : (b.take j).length = j := by simp; omega
    have e2 : decide (j < b.length ∧ b.getD j default = x) = decide ((b.drop j).head? = some x) := by
      rw [List.head?_drop, decide_eq_decide]
      by_cases hj : j < b.length
      · simp [hj]
      · simp [hj]
    rw [e1, e2]
  · rcases List.mem_append.1 hy with hy | hy
    · have hk : 2 ≤ k := by
        rcases B1 with _ | ⟨b1, B1⟩
        · cases hy
        · simp at hi; omega
      have hb : b ≠ [] := by intro hb; rw [hb] at hsz; simp at hsz
      have h1 := w5 y hy (hd b) (List.mem_append_left _ (hd_mem hb))
      rcases LtI.tot (k3' (by omega)) with h2 | h2
      · rw [← h2]; exact h1
      · exact h1.trans h2
    · obtain ⟨i, hi2, rfl⟩ := List.getElem_of_mem hy
      have hi3 : i < j ∧ i < b.length := by simp at hi2; omega
      have := j3 i hi3.1
      simpa [hi3.2] using this
  · obtain ⟨i, hi2, rfl⟩ := List.getElem_of_mem hy
    have hi3 : j + i < b.length := by simp at hi2; omega
    have := j4 (j + i) (by omega) hi3
    simpa [hi3] using this
  · obtain ⟨c, hc, hy⟩ := List.mem_flatten.1 hy
    have h1 := hk4 c hc
    rcases hd_le ((List.pairwise_flatten.1 w3).1 c hc) hy with h2 | h2
    · rw [h2]; exact h1
    · exact h1.trans h2
/-- The items with one more. -/
def insF (F : List SItem) (x : SItem) : List SItem × Bool :=
  if rightI x = true then
    if (F.dropWhile fun y => decide (LtI y x)).head? = some x then (F, false) else (F.takeWhile (fun y => decide (LtI y x)) ++ x :: F.dropWhile (fun y => decide (LtI y x)), true)
  else (F, false)
theorem tw_split {x : SItem} {S : List SItem} (h2 : ∀ y ∈ S, ¬ LtI y x) : ∀ {P : List SItem}, (∀ y ∈ P, LtI y x) → (P ++ S).takeWhile (fun y => decide (LtI y x)) = P ∧ (P ++ S).dropWhile (fun y => decide (LtI y x)) = S
  | [], _ => by
    cases S with
    | nil => exact ⟨rfl, rfl⟩
    | cons s S =>
      have := h2 s (List.mem_cons_self ..)
      simp [this]
  | p :: P, h1 => by
    have := h1 p (List.mem_cons_self ..)
    obtain ⟨e1, e2⟩ := tw_split h2 (P := P) (fun y hy => h1 y (List.mem_cons_of_mem _ hy))
    simp [this, e1, e2]
theorem insF_split {x : SItem} {P S : List SItem} (h1 : ∀ y ∈ P, LtI y x) (h2 : ∀ y ∈ S, ¬ LtI y x) (hr : rightI x = true) : insF (P ++ S) x = if S.head? = some x then (P ++ S, false) else (P ++ x :: S, true) := by
  unfold insF
  rw [if_pos hr, (tw_split h2 h1).1, (tw_split h2 h1).2]
theorem dw_head {p : SItem → Bool} : ∀ {F S : List SItem} {y : SItem}, F.dropWhile p = y :: S → p y = false
  | [], S, y, h => by cases h
  | x :: F, S, y, h => by
    cases hp : p x with
    | true => rw [List.dropWhile_cons_of_pos hp] at h; exact dw_head h
    | false =>
      rw [List.dropWhile_cons_of_neg (by simp [hp])] at h
      injection h with h1 h2
      rw [← h1]; exact hp
theorem tw_mem {p : SItem → Bool} : ∀ {F : List SItem} {y : SItem}, y ∈ F.takeWhile p → p y = true
  | [], y, h => by cases h
  | x :: F, y, h => by
    cases hp : p x with
    | true =>
      rw [List.takeWhile_cons_of_pos hp] at h
      rcases List.mem_cons.1 h with e | e
      · rw [e]; exact hp
      · exact tw_mem e
    | false => rw [List.takeWhile_cons_of_neg (by simp [hp])] at h; cases h
theorem slc_0 {α : Type} {P S : List α} : slc (P ++ S) 0 (P.length : Int) = some P := by
  unfold slc; rw [if_pos ⟨by omega, by omega, by simp only [List.length_append]; omega⟩]; simp
theorem slc_1 {α : Type} {P S : List α} : slc (P ++ S) (P.length : Int) ((P ++ S).length : Int) = some S := by
  unfold slc; rw [if_pos ⟨by omega, by simp only [List.length_append]; omega, by omega⟩, show ((P ++ S).length : Int).toNat = (P ++ S).length by omega, List.take_length]; simp
theorem ref_ins {n : Nat} {F : List SItem} {x : SItem} (hl : F.length ≤ 1000000) (hn : 1000000 < n) : m_ref42_Insert n F x = some (insF F x) := by
  unfold m_ref42_Insert insF
  rw [show m_ref42_Right n (⟨x.fN, x.fDoc⟩ : SItem) = some (rightI x) from rfl, Option.bind_some]
  cases hr : rightI x with
  | false => rfl
  | true =>
    have hF := List.takeWhile_append_dropWhile (p := fun y => decide (LtI y x)) (l := F)
    have hP : ∀ y ∈ F.takeWhile (fun y => decide (LtI y x)), LtI y x := fun y hy => of_decide_eq_true (tw_mem hy)
    have hS : ∀ y S', F.dropWhile (fun y => decide (LtI y x)) = y :: S' → ¬ LtI y x := fun y S' h => of_decide_eq_false (dw_head (p := fun y => decide (LtI y x)) h)
    generalize F.takeWhile (fun y => decide (LtI y x)) = P at *
    generalize F.dropWhile (fun y => decide (LtI y x)) = S at *
    subst hF
    have hl' : P.length + S.length ≤ 1000000 := by simpa using hl
    have ex : (⟨x.fN, x.fDoc⟩ : SItem) = x := rfl
    have q : iter n (fun s => m_ref42_Insert_L1 n (P ++ S) x s) (0 : Int) = some (P.length : Int) := by
      refine iter_to (fun j => (j : Int)) P.length n _ (fun j hj => ?_) ?_ (by omega) (by simp)
      · have h1 : (P ++ S).getD j default = P[j] := by simp [hj, List.getElem?_append_left]
        have h2 := hP P[j] (List.getElem_mem hj)
        simp only [m_ref42_Insert_L1]
        rw [decide_eq_true (show (j : Int) < ((P ++ S).length : Int) by simp; omega), if_pos rfl, ix_get default (by simp; omega), Option.bind_some, h1, if_pos rfl, ex, less_i, Option.bind_some, decide_eq_true h2, if_pos (by rfl), wadd1 hj (by simp only [ML]; omega)]
      · simp only [m_ref42_Insert_L1]
        cases S with
        | nil => simp
        | cons s S =>
          have h1 : ix (P ++ s :: S) (P.length : Int) = some s := by simp [ix]
          have h2 := hS s S rfl
          rw [decide_eq_true (show (P.length : Int) < ((P ++ s :: S).length : Int) by simp; omega), if_pos rfl, h1, Option.bind_some, if_pos rfl, ex, less_i, Option.bind_some, decide_eq_false h2]
          rfl
    rw [q, Option.bind_some, ex, slc_0, slc_1]
    simp only [Option.bind_some]
    rw [app_eq (by simp; omega) (by simp; omega), Option.bind_some, List.nil_append, app_one (by omega) (by omega), Option.bind_some, app_eq (by simp; omega) (by simp; omega), Option.bind_some]
    cases S with
    | nil => simp
    | cons s S =>
      have h1 : ix (P ++ s :: S) (P.length : Int) = some s := by simp [ix]
      rw [decide_eq_true (show (P.length : Int) < ((P ++ s :: S).length : Int) by simp; omega), if_pos rfl, h1, Option.bind_some]
      by_cases hc : s = x
      · simp [hc]
      · simp [hc]
end
section
/- Insert at a valid index. Conditions: none. -/
open Go
theorem getD_mid {α : Type} (A M C : List α) (d : α) (j : Nat) : (A ++ M ++ C).getD j d = if j < A.length then A.getD j d else if j < A.length + M.length then M.getD (j - A.length) d else C.getD (j - A.length - M.length) d := by
  simp only [List.getD_eq_getElem?_getD]
  split
  · rw [List.append_assoc, List.getElem?_append_left (by omega)]
  · split
    · rw [List.getElem?_append_left (by simp; omega), List.getElem?_append_right (by omega)]
    · rw [List.getElem?_append_right (by simp; omega)]
      congr 2
      simp; omega
theorem getD_one {α : Type} (x d : α) (j : Nat) : [x].getD j d = if j = 0 then x else d := by
  rcases j with _ | j
  · rfl
  · simp
theorem getD_mem {α : Type} {l : List α} {j : Nat} (d : α) (h : j < l.length) : l.getD j d ∈ l := by
  have : l.getD j d = l[j] := by simp [h]
  rw [this]; exact List.getElem_mem h
theorem Sz_mid {B1 M B2 : List (List SItem)} {b : List SItem} (h : Sz (B1 ++ [b] ++ B2)) (h0 : 0 < M.length) (hm : ∀ m ∈ M, 1 ≤ m.length ∧ m.length ≤ 32) (hp : ∀ j, j + 1 < M.length → 17 ≤ (M.getD j []).length + (M.getD (j + 1) []).length)
    (hl : ∀ a, 1 ≤ a → 17 ≤ a + b.length → 17 ≤ a + (M.getD 0 []).length) (hr : ∀ c, 1 ≤ c → 17 ≤ b.length + c → 17 ≤ (M.getD (M.length - 1) []).length + c) : Sz (B1 ++ M ++ B2) := by
  refine ⟨fun x hx => ?_, fun j hj => ?_⟩
  · rcases List.mem_append.1 hx with hx | hx
    · rcases List.mem_append.1 hx with hx | hx
      · exact h.1 x (by simp [hx])
      · exact hm x hx
    · exact h.1 x (by simp [hx])
  · have hA : ∀ j, j < B1.length → 1 ≤ (B1.getD j []).length := fun j hj => (h.1 _ (List.mem_append_left _ (List.mem_append_left _ (getD_mem [] hj)))).1
    have hC : ∀ j, j < B2.length → 1 ≤ (B2.getD j []).length := fun j hj => (h.1 _ (List.mem_append_right _ (getD_mem [] hj))).1
    have h2 := h.2
    simp only [getD_mid, List.length_append, List.length_singleton, getD_one] at h2 hj ⊢
    by_cases c1 : j + 1 < B1.length
    · have := h2 j (by omega)
      rw [if_pos (by omega), if_pos c1] at this ⊢; exact this
    · by_cases c2 : j + 1 = B1.length
      · have := h2 j (by omega)
        rw [if_pos (by omega), if_neg c1, if_pos (by omega), if_pos (by omega)] at this
        rw [if_pos (by omega), if_neg c1, if_pos (by omega), show j + 1 - B1.length = 0 by omega]
        exact hl _ (hA j (by omega)) this
      · by_cases c3 : j + 1 < B1.length + M.length
        · rw [if_neg (by omega), if_pos (by omega), if_neg c1, if_pos c3, show j + 1 - B1.length = j - B1.length + 1 by omega]
          exact hp _ (by omega)
        · by_cases c4 : j + 1 = B1.length + M.length
          · have := h2 B1.length (by omega)
            rw [if_neg (by omega), if_pos (by omega), if_pos (by omega), if_neg (by omega), if_neg (by omega), show B1.length + 1 - B1.length - 1 = 0 by omega] at this
            rw [if_neg (by omega), if_pos (by omega), if_neg c1, if_neg c3, show j - B1.length = M.length - 1 by omega, show j + 1 - B1.length - M.length = 0 by omega]
            exact hr _ (hC 0 (by omega)) this
          · have := h2 (j + 1 - M.length) (by omega)
            rw [if_neg (by omega), if_neg (by omega), if_neg (by omega), if_neg (by omega)] at this
            rw [if_neg (by omega), if_neg (by omega), if_neg c1, if_neg c3, show j - B1.length - M.length = j + 1 - M.length - B1.length - 1 by omega, show j + 1 - B1.length - M.length = j + 1 - M.length + 1 - B1.length - 1 by omega]
            exact this
theorem ins_ok {x : SItem} {P S : List SItem} (h : (P ++ S).Pairwise LtI) (hr : ∀ y ∈ P ++ S, rightI y = true) (hx : rightI x = true) (h1 : ∀ y ∈ P, LtI y x) (h2 : ∀ y ∈ S, LtI x y) : (∀ y ∈ P ++ x :: S, rightI y = true) ∧ (P ++ x :: S).Pairwise LtI := by
  refine ⟨fun y hy => ?_, ?_⟩
  · rcases List.mem_append.1 hy with hy | hy
    · exact hr y (List.mem_append_left _ hy)
    · rcases List.mem_cons.1 hy with hy | hy
      · rw [hy]; exact hx
      · exact hr y (List.mem_append_right _ hy)
  · rw [List.pairwise_append] at h ⊢
    refine ⟨h.1, List.pairwise_cons.2 ⟨h2, h.2.1⟩, fun a ha b hb => ?_⟩
    rcases List.mem_cons.1 hb with hb | hb
    · rw [hb]; exact h1 a ha
    · exact (h1 a ha).trans (h2 b hb)
theorem replaced_mid {n : Nat} {B1 B2 C : List (List SItem)} {b : List SItem} (h1 : (B1 ++ b :: B2).length ≤ 100000) (h2 : C.length ≤ 100000) (hn : 1000000 < n) : m_rangeindex_replaced n ⟨B1 ++ b :: B2⟩ (B1.length : Int) (IntKind.i64.wrap ((B1.length : Int) + 1)) C = some ⟨B1 ++ C ++ B2⟩ := by
  have hl : B1.length + (B2.length + 1) ≤ 100000 := by simpa using h1
  have e : IntKind.i64.wrap ((B1.length : Int) + 1) = ((B1.length + 1 : Nat) : Int) := by rw [w64 (by omega) (by omega)]; rfl
  have := replaced_eq (n := n) (B := B1 ++ b :: B2) (C := C) (i := B1.length) (j := B1.length + 1) (by simp) (by simp) h1 h2 hn
  rw [e, this]
  congr 2
  simp
theorem ix_mid {α : Type} {A C : List α} {x : α} : ix (A ++ x :: C) (A.length : Int) = some x := by simp [ix]
theorem td_app {α : Type} (b X : List α) (k : Nat) : b.take k ++ (b.drop k ++ X) = b ++ X := by rw [← List.append_assoc, List.take_append_drop]
theorem ins_prog {n : Nat} {B : List (List SItem)} {x : SItem} (h : VB B) (hl : B.flatten.length ≤ 90000) (hn : 1000000 < n) :
    ∃ B', m_rangeindex_Insert n ⟨B⟩ x = some (⟨B'⟩, (insF B.flatten x).2) ∧ B'.flatten = (insF B.flatten x).1 ∧ VB B' := by
  have hB := h.len
  have ex : (⟨x.fN, x.fDoc⟩ : SItem) = x := rfl
  unfold m_rangeindex_Insert
  rw [ex, show m_rangeindex_item n x = some (rightI x) from rfl, Option.bind_some]
  cases hr : rightI x with
  | false => exact ⟨B, by simp [insF, hr], by simp [insF, hr], h⟩
  | true =>
    rw [if_pos (by rfl), valid_t h (by omega) hn, Option.bind_some, if_neg (by decide)]
    by_cases h0 : B = []
    · subst h0
      refine ⟨[[x]], by simp [insF, hr], by simp [insF, hr], ⟨by simp, fun i hi => by simp at hi⟩, by simpa using hr, by simp⟩
    · have hpos : 0 < B.length := List.length_pos_iff.2 h0
      rw [if_neg (by rw [decide_eq_true_eq]; show ¬ (B.length : Int) = 0; omega)]
      obtain ⟨B1, p, s, B2, e, e1, e2, c1, c2, c3⟩ := find_split (x := x) h h0 (by omega) hn
      rw [e1, Option.bind_some]
      subst e
      have hfl : (B1 ++ (p ++ s) :: B2).flatten = (B1.flatten ++ p) ++ (s ++ B2.flatten) := by simp
      have hlen : B1.length + (B2.length + 1) ≤ 90000 := by simp at hB hl; omega
      have hsz := h.1.1 (p ++ s) (by simp)
      have hps : p.length + s.length ≤ 32 := by have := hsz.2; simpa using this
      have hps1 : 1 ≤ p.length + s.length := by have := hsz.1; simpa using this
      rw [ix_mid, Option.bind_some, e2, Option.bind_some]
      have c4 : ∀ y ∈ s ++ B2.flatten, ¬ LtI y x := fun y hy => by
        rcases List.mem_append.1 hy with hy | hy
        · exact c2 y hy
        · exact fun hc => LtI.irrefl (hc.trans (c3 y hy))
      have hi := insF_split c1 c4 hr
      rw [hfl]
      by_cases hs : s.head? = some x
      · have hs2 : (s ++ B2.flatten).head? = some x := by rw [List.head?_append, hs]; rfl
        rw [if_pos (by simp [hs]), hi, if_pos hs2]
        exact ⟨_, rfl, hfl, h⟩
      · have c5 : ∀ y ∈ s ++ B2.flatten, LtI x y := fun y hy => by
          rcases List.mem_append.1 hy with hy' | hy'
          · rcases LtI.tot (c2 y hy') with q | q
            · subst q
              exfalso
              cases s with
              | nil => cases hy'
              | cons z s =>
                rcases List.mem_cons.1 hy' with q | q
                · exact hs (by rw [q]; rfl)
                · have hp := h.2.2
                  rw [hfl, List.pairwise_append, List.cons_append] at hp
                  have := (List.pairwise_cons.1 hp.2.1).1 x (List.mem_append_left _ q)
                  exact c2 z (List.mem_cons_self ..) this
            · exact q
          · exact c3 y hy'
        have hs2 : ¬ (s ++ B2.flatten).head? = some x := fun q => by
          have := c5 x (by
            cases hq : s ++ B2.flatten with
            | nil => rw [hq] at q; cases q
            | cons z t => rw [hq] at q; injection q with q; rw [q]; exact List.mem_cons_self ..)
          exact LtI.irrefl this
        rw [if_neg (by simp [hs]), hi, if_neg hs2, Option.bind_some, clone_i (by simp; omega), Option.bind_some]
        have hins : insL 16 (p ++ s) (p.length : Int) [x] = some (p ++ x :: s) := by
          simp only [insL]
          rw [if_pos ⟨by omega, by simp only [List.length_append]; omega, by simp only [List.length_append]; omega, by simp only [List.length_append]; omega⟩]
          simp
        rw [show m_slices_Insert_rangeindex_Item_rangeindex_Item n (p ++ s) (p.length : Int) [x] = some (p ++ x :: s) from hins, Option.bind_some]
        have hok := ins_ok (x := x) (P := B1.flatten ++ p) (S := s ++ B2.flatten) (by rw [← hfl]; exact h.2.2) (by rw [← hfl]; exact h.2.1) hr c1 c5
        have hlen2 : (p ++ x :: s).length = p.length + s.length + 1 := by simp; omega
        have hSz : Sz (B1 ++ [p ++ s] ++ B2) := by have := h.1; simpa using this
        generalize hb' : p ++ x :: s = b' at hlen2
        have hq : quo .i64 (b'.length : Int) 2 = some ((b'.length / 2 : Nat) : Int) := by
          unfold quo; rw [if_neg (by decide), quo64 (by omega) (by omega) (by omega)]; rfl
        rw [hq, Option.bind_some]
        by_cases hbig : 32 < b'.length
        · rw [if_pos (decide_eq_true (by omega))]
          have hs0 : slc b' 0 ((b'.length / 2 : Nat) : Int) = some (b'.take (b'.length / 2)) := by
            unfold slc; rw [if_pos ⟨by omega, by omega, by omega⟩, Int.toNat_natCast]; rfl
          have hs1 : slc b' ((b'.length / 2 : Nat) : Int) (b'.length : Int) = some (b'.drop (b'.length / 2)) := by
            unfold slc; rw [if_pos ⟨by omega, by omega, by omega⟩, Int.toNat_natCast, Int.toNat_natCast, List.take_length]
          rw [hs0, Option.bind_some, hs1, Option.bind_some, replaced_mid (by simp; omega) (by simp) hn, Option.bind_some]
          have hfl2 : ∀ k, (B1 ++ [b'.take k, b'.drop k] ++ B2).flatten = (B1.flatten ++ p) ++ x :: (s ++ B2.flatten) := fun k => by
            simp only [List.flatten_append, List.flatten_cons, List.flatten_nil, List.append_nil, List.append_assoc, td_app]
            rw [← hb']; simp
          refine ⟨_, rfl, hfl2 _, ?_, ?_⟩
          · refine Sz_mid hSz (by simp) (fun m hm => ?_) (fun j hj => ?_) (fun a h1 h2 => ?_) (fun c h1 h2 => ?_)
            · simp only [List.mem_cons, List.not_mem_nil, or_false] at hm
              rcases hm with rfl | rfl
              · rw [List.length_take]; omega
              · rw [List.length_drop]; omega
            · obtain rfl : j = 0 := by simp at hj; omega
              simp; omega
            · simp; omega
            · simp; omega
          · rw [hfl2]; exact hok
        · rw [if_neg (by rw [decide_eq_true_eq]; omega), replaced_mid (by simp; omega) (by simp) hn, Option.bind_some]
          refine ⟨_, rfl, ?_, ?_, ?_⟩
          · subst hb'; simp
          · refine Sz_mid hSz (by simp) (fun m hm => ?_) (fun j hj => ?_) (fun a h1 h2 => ?_) (fun c h1 h2 => ?_)
            · simp only [List.mem_cons, List.not_mem_nil, or_false] at hm
              subst hm; omega
            · simp at hj
            · simp at h2 ⊢; omega
            · simp at h2 ⊢; omega
          · subst hb'
            have : (B1 ++ [p ++ x :: s] ++ B2).flatten = (B1.flatten ++ p) ++ x :: (s ++ B2.flatten) := by simp
            rw [this]; exact hok
end
section
/- Remove at a valid index. Conditions: none. -/
open Go
theorem joins {n i : Nat} (hn : 1000000 < n) (hi : i ≤ 90000) : ∀ (d k : Nat) (B : List (List SItem)) (fuel : Nat), B.length - k ≤ d → d < fuel → B.flatten.length ≤ 90000 → B.length ≤ 90000 → k ≤ 90001 →
    (∀ b ∈ B, 1 ≤ b.length ∧ b.length ≤ 32) → (∀ j, j + 1 < B.length → (j < k ∨ i < j) → 17 ≤ (B.getD j []).length + (B.getD (j + 1) []).length) →
    ∃ B', iter fuel (fun s => m_rangeindex_Remove_L1 n (i : Int) s.1 s.2) ((k : Int), B) = some B' ∧ B'.flatten = B.flatten ∧ Sz B'
  | d, k, B, 0, _, h2, _, _, _, _, _ => by omega
  | d, k, B, fuel + 1, h1, h2, h3, h4, h5, h6, h7 => by
    have ek : IntKind.i64.wrap ((k : Int) + 1) = ((k + 1 : Nat) : Int) := by rw [w64 (by omega) (by omega)]; rfl
    have ek2 : IntKind.i64.wrap ((k : Int) + 2) = ((k + 2 : Nat) : Int) := by rw [w64 (by omega) (by omega)]; rfl
    by_cases hc : k + 1 < B.length ∧ k ≤ i
    · obtain ⟨A, C, e, hA⟩ := split_at (l := B) (i := k) [] (by omega)
      generalize B.getD k [] = p at e
      obtain ⟨q, C, rfl⟩ : ∃ q C', C = q :: C' := by
        cases C with
        | nil => rw [e] at hc; simp at hc; omega
        | cons q C => exact ⟨q, C, rfl⟩
      subst e
      have hp := h6 p (by simp)
      have hq := h6 q (by simp)
      have x1 : ix (A ++ p :: q :: C) (k : Int) = some p := by subst hA; simp [ix]
      have x2 : ix (A ++ p :: q :: C) ((k + 1 : Nat) : Int) = some q := by subst hA; simp [ix]; omega
      have eb : A ++ p :: q :: C = A ++ [p, q] ++ C := by simp
      have hl : A.length + (C.length + 2) ≤ 90000 := by simpa using h4
      obtain ⟨d, rfl⟩ : ∃ d', d = d' + 1 := ⟨d - 1, by omega⟩
      rw [iter]
      simp only [m_rangeindex_Remove_L1]
      rw [ek, if_pos (by simp only [Bool.and_eq_true, decide_eq_true_eq]; omega), x1, Option.bind_some, x2, Option.bind_some, w64 (x := (p.length : Int) + (q.length : Int)) (by omega) (by omega)]
      by_cases h17 : 17 ≤ p.length + q.length
      · rw [if_pos (decide_eq_true (by omega)), Option.bind_some]
        refine joins hn hi d (k + 1) _ fuel (by omega) (by omega) h3 h4 (by omega) h6 (fun j hj hj2 => ?_)
        by_cases hjk : j = k
        · subst hjk; rw [eb, getD_mid, getD_mid]
          rw [if_neg (by omega), if_pos (by simp; omega), if_neg (by omega), if_pos (by simp; omega), show j - A.length = 0 by omega, show j + 1 - A.length = 1 by omega]
          exact h17
        · exact h7 j hj (by omega)
      · have hcat := concat_items (n := n) (L := [p, q]) (by simp) (by simp; omega) hn
        have hrep := replaced_eq (n := n) (B := A ++ p :: q :: C) (C := [p ++ q]) (i := k) (j := k + 2) (by simp; omega) (by simp; omega) (by omega) (by simp) hn
        have e1 : (A ++ p :: q :: C).take k = A := by subst hA; simp
        have e2 : (A ++ p :: q :: C).drop (k + 2) = C := by subst hA; simp
        rw [e1, e2] at hrep
        rw [if_neg (by rw [decide_eq_true_eq]; omega), hcat, Option.bind_some, show ([p, q] : List (List SItem)).flatten = p ++ q by simp, ek2, hrep, Option.bind_some, Option.bind_some]
        have hfl : (A ++ [p ++ q] ++ C).flatten = (A ++ p :: q :: C).flatten := by simp
        obtain ⟨B', g1, g2, g3⟩ := joins hn hi d k (A ++ [p ++ q] ++ C) fuel (by simp at h1 ⊢; omega) (by omega) (by rw [hfl]; exact h3) (by simp; omega) h5 (fun b hb => by
            simp only [List.mem_append, List.mem_singleton] at hb
            rcases hb with (hb | hb) | hb
            · exact h6 b (by simp [hb])
            · subst hb; rw [List.length_append]; omega
            · exact h6 b (by simp [hb])) (fun j hj hj2 => by
            rw [eb] at h7
            simp only [getD_mid, List.length_append, List.length_singleton, List.length_cons, List.length_nil] at h7 hj ⊢
            by_cases c1 : j + 1 < A.length
            · have := h7 j (by omega) hj2
              rw [if_pos (by omega), if_pos c1] at this ⊢; exact this
            · by_cases c2 : j + 1 = A.length
              · have := h7 j (by omega) hj2
                rw [if_pos (by omega), if_neg c1, if_pos (by omega), show j + 1 - A.length = 0 by omega, show ([p, q] : List (List SItem)).getD 0 [] = p from rfl] at this
                rw [if_pos (by omega), if_neg c1, if_pos (by omega), show j + 1 - A.length = 0 by omega, show ([p ++ q] : List (List SItem)).getD 0 [] = p ++ q from rfl, List.length_append]
                omega
              · have := h7 (j + 1) (by omega) (by omega)
                rw [if_neg (by omega), if_neg (by omega), if_neg (by omega), if_neg (by omega)] at this
                rw [if_neg (by omega), if_neg (by omega), if_neg (by omega), if_neg (by omega), show j - A.length - (0 + 1) = j + 1 - A.length - (0 + 1 + 1) by omega, show j + 1 - A.length - (0 + 1) = j + 1 + 1 - A.length - (0 + 1 + 1) by omega]
                exact this)
        exact ⟨B', g1, by rw [g2, hfl], g3⟩
    · refine ⟨B, ?_, rfl, h6, fun j hj => h7 j hj (by omega)⟩
      rw [iter]
      simp only [m_rangeindex_Remove_L1]
      rw [ek, if_neg (by simp only [Bool.and_eq_true, decide_eq_true_eq]; omega)]
      rfl
/-- The items without one. -/
def remF (F : List SItem) (x : SItem) : List SItem × Bool := if x ∈ F then (F.erase x, true) else (F, false)
theorem remF_split {x : SItem} {P S : List SItem} (h : x ∉ P) : remF (P ++ x :: S) x = (P ++ S, true) := by
  unfold remF
  rw [if_pos (by simp), List.erase_append_right _ h]
  simp
theorem ref_rem {n : Nat} {F : List SItem} {x : SItem} (hl : F.length ≤ 1000000) (hn : 1000000 < n) : m_ref42_Remove n F x = some (remF F x) := by
  have ex : (⟨x.fN, x.fDoc⟩ : SItem) = x := rfl
  unfold m_ref42_Remove
  rcases iter_scan (f := fun s => m_ref42_Remove_L1 n F x s) F.length (fun j => decide (F.getD j default = x)) (fun j => .inl (F.take j ++ F.drop (j + 1), true)) (.inr ()) F.length 0 n 0 (by omega)
      (fun j hj => by
        simp only [m_ref42_Remove_L1]
        rw [if_pos (decide_eq_true (by omega)), ix_get default hj, Option.bind_some, ex]
        by_cases hc : F.getD j default = x
        · have s0 : slc F 0 (j : Int) = some (F.take j) := by
            unfold slc; rw [if_pos ⟨by omega, by omega, by omega⟩, Int.toNat_natCast]; rfl
          have s1 : slc F ((j + 1 : Nat) : Int) (F.length : Int) = some (F.drop (j + 1)) := by
            unfold slc; rw [if_pos ⟨by omega, by omega, by omega⟩, Int.toNat_natCast, Int.toNat_natCast, List.take_length]
          have l1 : (F.take j).length ≤ F.length := by rw [List.length_take]; omega
          have l2 : (F.drop (j + 1)).length ≤ F.length := by rw [List.length_drop]; omega
          rw [decide_eq_true hc, if_pos rfl, s0, Option.bind_some, app_eq (by rw [List.length_nil]; omega) (by rw [List.length_nil]; omega), Option.bind_some, wadd1 hj (Nat.le_trans hl (by decide)), s1, Option.bind_some, List.nil_append, app_eq (by omega) (by omega)]
          rfl
        · rw [decide_eq_false hc, if_neg (by decide), wadd1 hj (Nat.le_trans hl (by decide))]
          rfl) (by simp [m_ref42_Remove_L1]) (by omega) rfl with ⟨j, _, h2, h3, h4, h5⟩ | ⟨h1, h2⟩
  · rw [h5, Option.bind_some]
    obtain ⟨A, C, e, hA⟩ := split_at (l := F) default h2
    have hx : F.getD j default = x := of_decide_eq_true h3
    rw [hx] at e
    have hnot : x ∉ A := fun hm => by
      obtain ⟨q, hq, hqx⟩ := List.getElem_of_mem hm
      have := of_decide_eq_false (h4 q (by omega) (by omega))
      apply this
      rw [e]; simp [hq, List.getElem?_append_left, hqx]
    have r := remF_split (S := C) hnot
    rw [← e] at r
    rw [r]
    subst hA
    rw [e]
    simp
  · rw [h2, Option.bind_some]
    have : x ∉ F := fun hm => by
      obtain ⟨q, hq, hqx⟩ := List.getElem_of_mem hm
      have := of_decide_eq_false (h1 q (by omega) hq)
      apply this
      simp [hq, hqx]
    simp [remF, this]
theorem rem_prog {n : Nat} {B : List (List SItem)} {x : SItem} (h : VB B) (hl : B.flatten.length ≤ 90000) (hn : 1000000 < n) :
    ∃ B', m_rangeindex_Remove n ⟨B⟩ x = some (⟨B'⟩, (remF B.flatten x).2) ∧ B'.flatten = (remF B.flatten x).1 ∧ VB B' := by
  have hB := h.len
  have ex : (⟨x.fN, x.fDoc⟩ : SItem) = x := rfl
  unfold m_rangeindex_Remove
  rw [ex]
  by_cases h0 : B = []
  · subst h0
    exact ⟨[], by simp [remF], by simp [remF], h⟩
  · have hpos : 0 < B.length := List.length_pos_iff.2 h0
    have e0 : decide (((⟨B⟩ : SIndex).fBlocks.length : Int) = 0) = false := decide_eq_false (by show ¬ (B.length : Int) = 0; omega)
    rw [e0, if_pos (by rfl), valid_t h (by omega) hn, Option.bind_some, if_neg (by decide)]
    obtain ⟨B1, p, s, B2, e, e1, e2, c1, c2, c3⟩ := find_split (x := x) h h0 (by omega) hn
    rw [e1, Option.bind_some]
    subst e
    have hfl : (B1 ++ (p ++ s) :: B2).flatten = (B1.flatten ++ p) ++ (s ++ B2.flatten) := by simp
    have hlen : B1.length + (B2.length + 1) ≤ 90000 := by simp at hB hl; omega
    have hsz := h.1.1 (p ++ s) (by simp)
    have hps : p.length + s.length ≤ 32 := by have := hsz.2; simpa using this
    rw [ix_mid, Option.bind_some, e2, Option.bind_some]
    have hnp : x ∉ B1.flatten ++ p := fun hm => LtI.irrefl (c1 x hm)
    by_cases hs : s.head? = some x
    · rw [if_neg (by simp [hs])]
      obtain ⟨s, rfl⟩ : ∃ s', s = x :: s' := by
        cases s with
        | nil => cases hs
        | cons z s => injection hs with hs; subst hs; exact ⟨s, rfl⟩
      have hps' : p.length + (s.length + 1) ≤ 32 := by simpa using hps
      have hdel : m_slices_Delete_rangeindex_Item_rangeindex_Item n (p ++ x :: s) (p.length : Int) (IntKind.i64.wrap ((p.length : Int) + 1)) = some (p ++ s) := by
        have ew : IntKind.i64.wrap ((p.length : Int) + 1) = ((p.length + 1 : Nat) : Int) := by rw [w64 (by omega) (by omega)]; rfl
        rw [ew]
        unfold m_slices_Delete_rangeindex_Item_rangeindex_Item delL
        rw [if_pos ⟨by omega, by omega, by simp only [List.length_append, List.length_cons]; omega⟩, Int.toNat_natCast, Int.toNat_natCast]
        simp
      have hr := remF_split (S := s ++ B2.flatten) hnp
      rw [hfl, List.cons_append, hr, Option.bind_some, clone_i (by simp; omega), Option.bind_some, hdel, Option.bind_some]
      have hpw : (B1.flatten ++ p ++ (s ++ B2.flatten)).Pairwise LtI := by
        have := h.2.2
        rw [hfl, List.cons_append] at this
        exact List.Pairwise.sublist (List.Sublist.append_left (List.sublist_cons_self ..) _) this
      have hrt : ∀ y ∈ B1.flatten ++ p ++ (s ++ B2.flatten), rightI y = true := fun y hy => by
        apply h.2.1
        rw [hfl, List.cons_append]
        exact (List.Sublist.append_left (List.sublist_cons_self ..) _).subset hy
      by_cases hz : p ++ s = []
      · rw [hz, if_pos (by rfl), replaced_mid (by simp; omega) (by simp) hn, Option.bind_some]
        obtain ⟨rfl, rfl⟩ : p = [] ∧ s = [] := by simpa using hz
        refine ⟨_, rfl, by simp, ?_, ?_⟩
        · have h2 := h.1
          refine ⟨fun b hb => h2.1 b ?_, fun j hj => ?_⟩
          · simp only [List.append_nil, List.mem_append] at hb
            rcases hb with hb | hb
            · exact List.mem_append_left _ hb
            · exact List.mem_append_right _ (List.mem_cons_of_mem _ hb)
          · have h3 := h2.2
            rw [show B1 ++ ([] ++ x :: []) :: B2 = B1 ++ [[x]] ++ B2 by simp] at h3
            simp only [getD_mid, List.length_append, List.length_singleton, List.length_nil] at h3 hj ⊢
            by_cases d1 : j + 1 < B1.length
            · have := h3 j (by omega)
              rw [if_pos (by omega), if_pos d1] at this ⊢; exact this
            · by_cases d2 : j + 1 = B1.length
              · have q1 := h3 j (by omega)
                have q2 := h3 (j + 1) (by omega)
                rw [if_pos (by omega), if_neg d1, if_pos (by omega), show j + 1 - B1.length = 0 by omega, show ([[x]] : List (List SItem)).getD 0 [] = [x] from rfl] at q1
                rw [if_neg d1, if_pos (by omega), if_neg (by omega), if_neg (by omega), show j + 1 - B1.length = 0 by omega, show ([[x]] : List (List SItem)).getD 0 [] = [x] from rfl, show j + 1 + 1 - B1.length - 1 = 0 by omega] at q2
                rw [if_pos (by omega), if_neg d1, if_neg (by omega), show j + 1 - B1.length - 0 = 0 by omega]
                simp only [List.length_singleton] at q1 q2
                omega
              · have := h3 (j + 1) (by omega)
                rw [if_neg (by omega), if_neg (by omega), if_neg (by omega), if_neg (by omega)] at this
                rw [if_neg (by omega), if_neg (by omega), if_neg (by omega), if_neg (by omega), show j - B1.length - 0 = j + 1 - B1.length - 1 by omega, show j + 1 - B1.length - 0 = j + 1 + 1 - B1.length - 1 by omega]
                exact this
        · have e3 : (B1 ++ [] ++ B2).flatten = B1.flatten ++ [] ++ ([] ++ B2.flatten) := by simp
          rw [e3]; exact ⟨hrt, hpw⟩
      · have hz1 : 0 < (p ++ s).length := List.length_pos_iff.2 hz
        rw [if_neg (by rw [decide_eq_true_eq]; omega), replaced_mid (by simp; omega) (by simp) hn, Option.bind_some]
        have ek : max (0 : Int) (IntKind.i64.wrap ((B1.length : Int) - 1)) = ((B1.length - 1 : Nat) : Int) := by
          rw [w64 (by omega) (by omega)]; omega
        have hfl2 : (B1 ++ [p ++ s] ++ B2).flatten = B1.flatten ++ p ++ (s ++ B2.flatten) := by simp
        have hl2 : (B1 ++ [p ++ s] ++ B2).flatten.length ≤ 90000 := by
          rw [hfl2]; rw [hfl] at hl
          simp only [List.length_append, List.length_cons] at hl ⊢; omega
        obtain ⟨B', g1, g2, g3⟩ := joins (n := n) (i := B1.length) hn (by omega) (B1 ++ [p ++ s] ++ B2).length (B1.length - 1) (B1 ++ [p ++ s] ++ B2) n (by omega) (by simp; omega) hl2 (by simp; omega) (by omega) (fun b hb => by
            simp only [List.mem_append, List.mem_singleton] at hb
            rcases hb with (hb | hb) | hb
            · exact h.1.1 b (by simp [hb])
            · subst hb; rw [List.length_append] at hz1 ⊢; omega
            · exact h.1.1 b (by simp [hb])) (fun j hj hj2 => by
            have h3 := h.1.2
            rw [show B1 ++ (p ++ x :: s) :: B2 = B1 ++ [p ++ x :: s] ++ B2 by simp] at h3
            simp only [getD_mid, List.length_append, List.length_singleton] at h3 hj ⊢
            have := h3 j (by omega)
            by_cases d1 : j + 1 < B1.length
            · rw [if_pos (by omega), if_pos d1] at this ⊢; exact this
            · rw [if_neg (by omega), if_neg (by omega), if_neg (by omega), if_neg (by omega)] at this ⊢
              exact this)
        have ek2 : iter n (fun s => m_rangeindex_Remove_L1 n (B1.length : Int) s.1 s.2) ((max (0 : Int) (IntKind.i64.wrap ((B1.length : Int) - 1))), B1 ++ [p ++ s] ++ B2) = some B' := by rw [ek]; exact g1
        rw [ek2]
        refine ⟨B', rfl, by rw [g2, hfl2], g3, ?_⟩
        rw [g2, hfl2]; exact ⟨hrt, hpw⟩
    · have hns : x ∉ s ++ B2.flatten := fun hm => by
        rcases List.mem_append.1 hm with hm | hm
        · cases s with
          | nil => cases hm
          | cons z s =>
            rcases List.mem_cons.1 hm with q | q
            · exact hs (by rw [q]; rfl)
            · have hp := h.2.2
              rw [hfl, List.pairwise_append, List.cons_append] at hp
              exact c2 z (List.mem_cons_self ..) ((List.pairwise_cons.1 hp.2.1).1 x (List.mem_append_left _ q))
        · exact LtI.irrefl (c3 x hm)
      have hnx : x ∉ (B1 ++ (p ++ s) :: B2).flatten := by
        rw [hfl]; intro hm
        rcases List.mem_append.1 hm with hm | hm
        · exact hnp hm
        · exact hns hm
      rw [if_pos (by simp [hs])]
      exact ⟨_, by simp only [remF]; rw [if_neg hnx], by simp only [remF]; rw [if_neg hnx], h⟩
end
section
/- What the searches find, over the items. Conditions: none. -/
open Go
def inR (lo hi : Int) (x : SItem) : Bool := decide (lo ≤ x.fN) && decide (x.fN ≤ hi)
theorem filt_snoc {F : List SItem} {q : SItem → Bool} {j : Nat} (h : j < F.length) : (F.take (j + 1)).filter q = (F.take j).filter q ++ if q (F.getD j default) = true then [F.getD j default] else [] := by
  rw [take_one h, List.filter_append]
  congr 1
  rw [List.filter_cons]
  split <;> rfl
theorem filt_le {F : List SItem} {q : SItem → Bool} (j : Nat) : ((F.take j).filter q).length ≤ F.length := by
  have h1 := List.length_filter_le q (F.take j)
  rw [List.length_take] at h1; omega
theorem filt_flat {B : List (List SItem)} {q : SItem → Bool} {i : Nat} (hi : i < B.length) : (B.take (i + 1)).flatten.filter q = (B.take i).flatten.filter q ++ (B.getD i []).filter q := by
  rw [take_flat hi, List.filter_append]
theorem flat_bd {B : List (List SItem)} {q : SItem → Bool} {i : Nat} (hi : i < B.length) : ((B.take i).flatten.filter q).length + (B.getD i []).length ≤ B.flatten.length := by
  have e := congrArg List.length (take_flat hi)
  have l1 := take_flat_len (L := B) (i + 1)
  have l2 := List.length_filter_le q (B.take i).flatten
  rw [List.length_append] at e; omega
theorem between_in {n : Nat} {lo hi : Int} {v acc : List SItem} (h : acc.length + v.length ≤ 1000000) (hn : 1000000 < n) :
    iter n (fun s => m_rangeindex_between_L2 n lo hi v s.1 s.2) (acc, (0 : Int)) = some (acc ++ v.filter (inR lo hi)) := by
  refine iter_to (fun j => (acc ++ (v.take j).filter (inR lo hi), (j : Int))) v.length n _ (fun j hj => ?_) ?_ (by omega) (by simp)
  · have hb := filt_le (F := v) (q := inR lo hi) j
    have hla : (acc ++ (v.take j).filter (inR lo hi)).length + 1 ≤ 1000001 := by rw [List.length_append]; omega
    simp only [m_rangeindex_between_L2]
    rw [if_pos (decide_eq_true (by omega)), ix_get default hj, Option.bind_some, filt_snoc hj]
    generalize v.getD j default = x
    have ex : (⟨x.fN, x.fDoc⟩ : SItem) = x := rfl
    rw [ex, show (decide (lo ≤ x.fN) && decide (x.fN ≤ hi)) = inR lo hi x from rfl]
    by_cases hc : inR lo hi x = true
    · rw [if_pos hc, if_pos hc, app_one (by omega) (by omega), Option.bind_some, Option.bind_some, wadd1 hj (by simp only [ML]; omega), List.append_assoc]
    · rw [if_neg hc, if_neg hc, Option.bind_some, wadd1 hj (by simp only [ML]; omega), List.append_nil]
  · simp [m_rangeindex_between_L2]
theorem between_prog {n : Nat} {lo hi : Int} {B : List (List SItem)} (h1 : B.length ≤ 1000000) (h2 : B.flatten.length ≤ 1000000) (hn : 1000000 < n) : m_rangeindex_between n ⟨B⟩ lo hi = some (B.flatten.filter (inR lo hi)) := by
  have q : iter n (fun s => m_rangeindex_between_L1 n ⟨B⟩ lo hi s.1 s.2) (([] : List SItem), (0 : Int)) = some (B.flatten.filter (inR lo hi)) := by
    refine iter_to (fun j => ((B.take j).flatten.filter (inR lo hi), (j : Int))) B.length n _ (fun j hj => ?_) ?_ (by omega) (by simp)
    · have hb := flat_bd (q := inR lo hi) hj
      simp only [m_rangeindex_between_L1]
      rw [if_pos (decide_eq_true (by omega)), ix_get [] hj, Option.bind_some, between_in (by omega) hn, Option.bind_some, wadd1 hj (by simp only [ML]; omega), filt_flat hj]
    · simp [m_rangeindex_between_L1]
  unfold m_rangeindex_between
  rw [q]; rfl
theorem count_prog {n : Nat} {lo hi : Int} {B : List (List SItem)} (h1 : B.length ≤ 1000000) (h2 : B.flatten.length ≤ 1000000) (hn : 1000000 < n) : m_rangeindex_Count n ⟨B⟩ lo hi = some ((B.flatten.filter (inR lo hi)).length : Int) := by
  unfold m_rangeindex_Count
  rw [show (⟨(⟨B⟩ : SIndex).fBlocks⟩ : SIndex) = ⟨B⟩ from rfl, between_prog h1 h2 hn]; rfl
def belowN (a : Int) (x : SItem) : Bool := decide (x.fN < a)
theorem rank_in {n : Nat} {a : Int} {v : List SItem} {c : Nat} (h : c + v.length ≤ 1000000) (hn : 1000000 < n) :
    iter n (fun s => m_rangeindex_Rank_L2 n a v s.1 s.2) ((c : Int), (0 : Int)) = some ((c + (v.filter (belowN a)).length : Nat) : Int) := by
  refine iter_to (fun j => (((c + ((v.take j).filter (belowN a)).length : Nat) : Int), (j : Int))) v.length n _ (fun j hj => ?_) ?_ (by omega) (by simp)
  · have hb := filt_le (F := v) (q := belowN a) j
    simp only [m_rangeindex_Rank_L2]
    rw [if_pos (decide_eq_true (by omega)), ix_get default hj, Option.bind_some, filt_snoc hj]
    generalize v.getD j default = x
    rw [show decide (x.fN < a) = belowN a x from rfl]
    by_cases hc : belowN a x = true
    · rw [if_pos hc, if_pos hc, Option.bind_some, w64 (by omega) (by omega), wadd1 hj (by simp only [ML]; omega), List.length_append]
      rfl
    · rw [if_neg hc, if_neg hc, Option.bind_some, wadd1 hj (by simp only [ML]; omega), List.append_nil]
  · simp [m_rangeindex_Rank_L2]
theorem rank_prog {n : Nat} {a : Int} {B : List (List SItem)} (h1 : B.length ≤ 1000000) (h2 : B.flatten.length ≤ 1000000) (hn : 1000000 < n) : m_rangeindex_Rank n ⟨B⟩ a = some ((B.flatten.filter (belowN a)).length : Int) := by
  have q : iter n (fun s => m_rangeindex_Rank_L1 n ⟨B⟩ a s.1 s.2) ((0 : Int), (0 : Int)) = some ((B.flatten.filter (belowN a)).length : Int) := by
    refine iter_to (fun j => ((((B.take j).flatten.filter (belowN a)).length : Int), (j : Int))) B.length n _ (fun j hj => ?_) ?_ (by omega) (by simp)
    · have hb := flat_bd (q := belowN a) hj
      simp only [m_rangeindex_Rank_L1]
      rw [if_pos (decide_eq_true (by omega)), ix_get [] hj, Option.bind_some, rank_in (by omega) hn, Option.bind_some, wadd1 hj (by simp only [ML]; omega), filt_flat hj, List.length_append]
    · simp [m_rangeindex_Rank_L1]
  unfold m_rangeindex_Rank
  rw [q]; rfl
theorem tw_filter {a : Int} : ∀ {F : List SItem}, F.Pairwise LtI → F.takeWhile (belowN a) = F.filter (belowN a)
  | [], _ => rfl
  | x :: F, h => by
    have h1 := List.pairwise_cons.1 h
    cases hp : belowN a x with
    | true => rw [List.takeWhile_cons_of_pos hp, List.filter_cons_of_pos hp, tw_filter h1.2]
    | false =>
      rw [List.takeWhile_cons_of_neg (by simp [hp]), List.filter_cons_of_neg (by simp [hp])]
      symm
      rw [List.filter_eq_nil_iff]
      intro y hy
      have h2 := h1.1 y hy
      unfold belowN at hp ⊢
      unfold LtI at h2
      have h3 := of_decide_eq_false hp
      rw [decide_eq_true_eq]; omega
theorem wrapSub {i : Int} {o : Nat} (h1 : -9223372036854775808 ≤ i) (h2 : i ≤ 9223372036854775807) (ho : o ≤ 1000000) : (i - (o : Int) < -9223372036854775808 ∧ IntKind.i64.wrap (i - (o : Int)) = i - (o : Int) + 18446744073709551616) ∨ (-9223372036854775808 ≤ i - (o : Int) ∧ IntKind.i64.wrap (i - (o : Int)) = i - (o : Int)) := by
  by_cases h : i - (o : Int) < -9223372036854775808
  · left; refine ⟨h, ?_⟩
    simp [IntKind.wrap, IntKind.signed, IntKind.bits]; omega
  · right; exact ⟨by omega, w64 (by omega) (by omega)⟩
theorem wrapSub2 {i : Int} {o p : Nat} (h1 : -9223372036854775808 ≤ i) (h2 : i ≤ 9223372036854775807) (ho : o ≤ 1000000) (hp : p ≤ 1000000) : IntKind.i64.wrap (IntKind.i64.wrap (i - (o : Int)) - (p : Int)) = IntKind.i64.wrap (i - ((o + p : Nat) : Int)) := by
  rcases wrapSub (o := o) h1 h2 ho with ⟨c, e⟩ | ⟨c, e⟩ <;> rw [e] <;> (simp [IntKind.wrap, IntKind.signed, IntKind.bits]; omega)
/-- The item with an index. -/
def nthF (F : List SItem) (i : Int) : SItem × Bool := if 0 ≤ i ∧ i < F.length then (F.getD i.toNat default, true) else (⟨0, 0⟩, false)
theorem nth_loop {n : Nat} {i : Int} {B : List (List SItem)} (h1 : -9223372036854775808 ≤ i) (h2 : i ≤ 9223372036854775807) (h3 : B.length ≤ 1000000) (h4 : B.flatten.length ≤ 1000000) : ∀ (k j fuel : Nat), j + k = B.length → k < fuel → (i < 0 ∨ ((B.take j).flatten.length : Int) ≤ i) →
    iter fuel (fun s => m_rangeindex_Nth_L1 n ⟨B⟩ s.1 s.2) (IntKind.i64.wrap (i - ((B.take j).flatten.length : Int)), (j : Int)) = some (if 0 ≤ i ∧ i < B.flatten.length then .inl (B.flatten.getD i.toNat default, true) else .inr ())
  | k, j, 0, _, h, _ => by omega
  | 0, j, fuel + 1, e, _, h => by
    obtain rfl : j = B.length := by omega
    rw [List.take_length] at h ⊢
    rw [iter]
    simp only [m_rangeindex_Nth_L1]
    rw [if_neg (by simp), if_neg (by omega)]; rfl
  | k + 1, j, fuel + 1, e, hk, h => by
    have hj : j < B.length := by omega
    have e1 := congrArg List.length (take_flat hj)
    have l1 := take_flat_len (L := B) (j + 1)
    rw [List.length_append] at e1
    rw [iter]
    simp only [m_rangeindex_Nth_L1]
    rw [if_pos (decide_eq_true (by omega)), ix_get [] hj, Option.bind_some]
    by_cases hc : ((B.take j).flatten.length : Int) ≤ i ∧ i < ((B.take (j + 1)).flatten.length : Int)
    · have hg := flat_getI (B := B) (i := j) (k := i.toNat - (B.take j).flatten.length) hj (by omega)
      rw [show (B.take j).flatten.length + (i.toNat - (B.take j).flatten.length) = i.toNat by omega] at hg
      rw [w64 (by omega) (by omega), if_pos (by simp only [Bool.and_eq_true, decide_eq_true_eq]; omega), show i - ((B.take j).flatten.length : Int) = ((i.toNat - (B.take j).flatten.length : Nat) : Int) by omega, ix_get default (by omega), Option.bind_some, Option.bind_some, if_pos ⟨by omega, by omega⟩, hg]
    · have hw := wrapSub (i := i) (o := (B.take j).flatten.length) h1 h2 (by omega)
      rw [if_neg (by simp only [Bool.and_eq_true, decide_eq_true_eq]; omega), Option.bind_some]
      dsimp only
      rw [wrapSub2 h1 h2 (by omega) (by omega), ← e1, wadd1 hj (by simp only [ML]; omega)]
      exact nth_loop (n := n) h1 h2 h3 h4 k (j + 1) fuel (by omega) (by omega) (by omega)
theorem nth_prog {n : Nat} {i : Int} {B : List (List SItem)} (h1 : -9223372036854775808 ≤ i) (h2 : i ≤ 9223372036854775807) (h3 : B.length ≤ 1000000) (h4 : B.flatten.length ≤ 1000000) (hn : 1000000 < n) : m_rangeindex_Nth n ⟨B⟩ i = some (nthF B.flatten i) := by
  have q := nth_loop (n := n) h1 h2 h3 h4 B.length 0 n (by omega) (by omega) (by simp; omega)
  have e : IntKind.i64.wrap (i - ((B.take 0).flatten.length : Int)) = i := by
    rw [List.take_zero, List.flatten_nil, List.length_nil, Int.natCast_zero, Int.sub_zero, w64 h1 h2]
  rw [e] at q
  unfold m_rangeindex_Nth nthF
  rw [show ((i, (0 : Int)) : Int × Int) = (i, ((0 : Nat) : Int)) from rfl, q, Option.bind_some]
  by_cases h : 0 ≤ i ∧ i < B.flatten.length
  · rw [if_pos h, if_pos h]
  · rw [if_neg h, if_neg h]
end
section
/- The documents of a range, and an index of a list. Conditions: none. -/
open Go
end
section
/- An index of a list. Conditions: none. -/
open Go
theorem insF_len {F : List SItem} {x : SItem} : (insF F x).1.length ≤ F.length + 1 := by
  have hF := congrArg List.length (List.takeWhile_append_dropWhile (p := fun y => decide (LtI y x)) (l := F))
  rw [List.length_append] at hF
  unfold insF
  split
  · split
    · exact Nat.le_succ _
    · show (_ ++ _ :: _).length ≤ _
      rw [List.length_append, List.length_cons]; omega
  · exact Nat.le_succ _
theorem Sz_nil : Sz [] := ⟨fun b hb => (nomatch hb), fun j hj => by simp at hj⟩
end
section
/- An index behind changes, and the laws. Conditions: none. -/
open Go
theorem remF_len {F : List SItem} {x : SItem} : (remF F x).1.length ≤ F.length := by
  unfold remF
  split
  · exact List.length_erase_le ..
  · exact Nat.le_refl _
theorem play_loop {n : Nat} {l : List SOp} (hl : l.length ≤ 120) (hn : 1000000 < n) : ∀ (k j fuel : Nat) (B : List (List SItem)), j + k = l.length → k < fuel → VB B → B.flatten.length ≤ j →
    ∃ B', iter fuel (fun s => m_law42_play_L1 n l s.1 s.2) ((j : Int), B) = some B' ∧ iter fuel (fun s => m_ref42_Run_L1 n l s.1 s.2) (B.flatten, (j : Int)) = some B'.flatten ∧ VB B' ∧ B'.flatten.length ≤ l.length
  | k, j, 0, B, _, h, _, _ => by omega
  | 0, j, fuel + 1, B, e, _, hv, hb => by
    refine ⟨B, ?_, ?_, hv, by omega⟩
    · rw [iter]; simp only [m_law42_play_L1]; rw [if_neg (by rw [decide_eq_true_eq]; omega)]; rfl
    · rw [iter]; simp only [m_ref42_Run_L1]; rw [if_neg (by rw [decide_eq_true_eq]; omega)]; rfl
  | k + 1, j, fuel + 1, B, e, hk, hv, hb => by
    have hj : j < l.length := by omega
    have hx : ix l (j : Int) = some (l.getD j default) := ix_get default hj
    rw [iter, iter]
    simp only [m_law42_play_L1, m_ref42_Run_L1]
    rw [if_pos (decide_eq_true (by omega)), hx, Option.bind_some, Option.bind_some, Option.bind_some, if_pos (decide_eq_true (by omega)), Option.bind_some, Option.bind_some, Option.bind_some]
    generalize l.getD j default = o at *
    have ex : (⟨o.fItem.fN, o.fItem.fDoc⟩ : SItem) = o.fItem := rfl
    rw [ex]
    have hw : IntKind.i64.wrap ((j : Int) + 1) = ((j + 1 : Nat) : Int) := wadd1 hj (by simp only [ML]; omega)
    rw [hw]
    cases hr : o.fRemove with
    | true =>
      obtain ⟨B', e1, e2, e3⟩ := rem_prog (x := o.fItem) hv (by omega) hn
      rw [if_pos rfl, if_pos rfl, e1, ref_rem (by omega) hn]
      simp only [Option.bind_some]
      rw [← e2]
      have := remF_len (F := B.flatten) (x := o.fItem)
      exact play_loop hl hn k (j + 1) fuel B' (by omega) (by omega) e3 (by rw [e2]; omega)
    | false =>
      obtain ⟨B', e1, e2, e3⟩ := ins_prog (x := o.fItem) hv (by omega) hn
      rw [if_neg (by decide), if_neg (by decide), e1, ref_ins (by omega) hn]
      simp only [Option.bind_some]
      rw [← e2]
      have := insF_len (F := B.flatten) (x := o.fItem)
      exact play_loop hl hn k (j + 1) fuel B' (by omega) (by omega) e3 (by rw [e2]; omega)
theorem of_nil : m_rangeindex_Of FU [] = some (⟨[]⟩, 0) := by decide +kernel
theorem play_ok {l : List SOp} (hl : l.length ≤ 120) : ∃ B, m_law42_play FU l = some ⟨B⟩ ∧ m_ref42_Run FU l = some B.flatten ∧ VB B ∧ B.flatten.length ≤ 120 := by
  have hf := fuL
  obtain ⟨B, e1, e2, e3, e4⟩ := play_loop hl fuL l.length 0 FU [] (by omega) (by omega) ⟨Sz_nil, fun x hx => (nomatch hx), List.Pairwise.nil⟩ (Nat.le_refl _)
  refine ⟨B, ?_, ?_, e3, by omega⟩
  · unfold m_law42_play
    rw [of_nil, Option.bind_some, show ((0 : Int), (⟨[]⟩ : SIndex).fBlocks) = (((0 : Nat) : Int), ([] : List (List SItem))) from rfl, e1]; rfl
  · unfold m_ref42_Run
    rw [show (([] : List SItem), (0 : Int)) = (([] : List (List SItem)).flatten, ((0 : Nat) : Int)) from rfl, e2]; rfl
theorem small_l {l : List SOp} : m_law42_small FU l = some (decide ((l.length : Int) ≤ 120)) := rfl
end
end Go.Proofs.Ytjinohfopjlgkaa.Ab
