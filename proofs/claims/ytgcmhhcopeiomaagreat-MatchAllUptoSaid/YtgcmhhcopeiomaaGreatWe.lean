/- Plain laws, joined. Conditions: none. -/
import Derived.Test.YtgcmhhcopeiomaaGreatDva
import Derived.Test.YtgcmhhcopeiomaaGreatVg
import Derived.Test.YtgcmhhcopeiomaaGreatDvr
namespace Go.Proofs.YtgcmhhcopeiomaaGreat.Ab
section
/- Distances of lists from either end, in plain Lean. Conditions: none. -/

/-- The distance, from the front. -/
def ld : List Int → List Int → Nat
  | [], b => b.length
  | _ :: a, [] => a.length + 1
  | x :: a, y :: b => if x = y then ld a b else 1 + min (min (ld a b) (ld a (y :: b))) (ld (x :: a) b)
termination_by a b => a.length + b.length
theorem ld_nil (b : List Int) : ld [] b = b.length := by rw [ld]
theorem ld_nil2 (a : List Int) : ld a [] = a.length := by cases a <;> rw [ld] <;> rfl
theorem ld_cons (x y : Int) (a b : List Int) : ld (x :: a) (y :: b) = if x = y then ld a b else 1 + min (min (ld a b) (ld a (y :: b))) (ld (x :: a) b) := by rw [ld]
theorem ld_comm : ∀ (k : Nat) (a b : List Int), a.length + b.length ≤ k → ld a b = ld b a
  | _, [], b, _ => by rw [ld_nil, ld_nil2]
  | _, a, [], _ => by rw [ld_nil, ld_nil2]
  | 0, x :: a, y :: b, h => by simp at h
  | k + 1, x :: a, y :: b, h => by
    simp only [List.length_cons] at h
    rw [ld_cons, ld_cons, ld_comm k a b (by omega), ld_comm k a (y :: b) (by simp; omega), ld_comm k (x :: a) b (by simp; omega)]
    by_cases e : x = y
    · rw [if_pos e, if_pos e.symm]
    · rw [if_neg e, if_neg (Ne.symm e)]; omega
theorem ld_step : ∀ (k : Nat) (a b : List Int), a.length + b.length ≤ k → ∀ x, ld (x :: a) b ≤ ld a b + 1 ∧ ld a b ≤ ld (x :: a) b + 1 := by
  intro k
  induction k with
  | zero =>
    intro a b h x
    have ha : a = [] := List.length_eq_zero_iff.1 (by omega)
    have hb : b = [] := List.length_eq_zero_iff.1 (by omega)
    subst ha; subst hb
    simp [ld_nil, ld_nil2]
  | succ k ih =>
    intro a b h x
    cases b with
    | nil => simp only [ld_nil2, List.length_cons]; omega
    | cons y b =>
      simp only [List.length_cons] at h
      -- the other side, one shorter
      have h1 := ih b a (by omega) y
      rw [ld_comm _ (y :: b) a (Nat.le_refl _), ld_comm _ b a (Nat.le_refl _)] at h1
      have h2 := ih a b (by omega) x
      have h3 : a.length + b.length ≤ k := by omega
      rw [ld_cons]
      by_cases e : x = y
      · rw [if_pos e]; omega
      · rw [if_neg e]
        refine ⟨by omega, ?_⟩
        have : ld a (y :: b) ≤ ld (x :: a) b + 2 := by omega
        omega
theorem ld_step2 (a b : List Int) (y : Int) : ld a (y :: b) ≤ ld a b + 1 := by
  rw [ld_comm _ a (y :: b) (Nat.le_refl _), ld_comm _ a b (Nat.le_refl _)]
  exact (ld_step _ b a (Nat.le_refl _) y).1

/-- Ways from one list to another, and what they cost. -/
inductive Way : List Int → List Int → Nat → Prop
  | nil : Way [] [] 0
  | keep {a b : List Int} {n : Nat} (x : Int) : Way a b n → Way (x :: a) (x :: b) n
  | rep {a b : List Int} {n : Nat} (x y : Int) : Way a b n → Way (x :: a) (y :: b) (n + 1)
  | del {a b : List Int} {n : Nat} (x : Int) : Way a b n → Way (x :: a) b (n + 1)
  | ins {a b : List Int} {n : Nat} (y : Int) : Way a b n → Way a (y :: b) (n + 1)
theorem Way.le {a b : List Int} {n : Nat} (h : Way a b n) : ld a b ≤ n := by
  induction h with
  | nil => simp [ld_nil]
  | keep x _ ih => rw [ld_cons, if_pos rfl]; exact ih
  | rep x y _ ih =>
    rw [ld_cons]
    split <;> omega
  | @del a b n x _ ih => have := (ld_step _ a b (Nat.le_refl _) x).1; omega
  | @ins a b n y _ ih => have := ld_step2 a b y; omega
theorem Way.all : ∀ (b : List Int), Way [] b b.length
  | [] => .nil
  | y :: b => .ins y (Way.all b)
theorem Way.all2 : ∀ (a : List Int), Way a [] a.length
  | [] => .nil
  | x :: a => .del x (Way.all2 a)
theorem Way.best : ∀ (k : Nat) (a b : List Int), a.length + b.length ≤ k → Way a b (ld a b)
  | _, [], b, _ => by rw [ld_nil]; exact .all b
  | _, a, [], _ => by rw [ld_nil2]; exact .all2 a
  | 0, x :: a, y :: b, h => by simp at h
  | k + 1, x :: a, y :: b, h => by
    simp only [List.length_cons] at h
    rw [ld_cons]
    by_cases e : x = y
    · subst e; rw [if_pos rfl]; exact .keep x (Way.best k a b (by omega))
    · rw [if_neg e]
      have h1 := Way.best k a b (by omega)
      have h2 := Way.best k a (y :: b) (by simp; omega)
      have h3 := Way.best k (x :: a) b (by simp; omega)
      rcases Nat.le_total (ld a b) (ld a (y :: b)) with c | c
      · rw [Nat.min_eq_left c]
        rcases Nat.le_total (ld a b) (ld (x :: a) b) with d | d
        · rw [Nat.min_eq_left d, Nat.add_comm]; exact .rep x y h1
        · rw [Nat.min_eq_right d, Nat.add_comm]; exact .ins y h3
      · rw [Nat.min_eq_right c]
        rcases Nat.le_total (ld a (y :: b)) (ld (x :: a) b) with d | d
        · rw [Nat.min_eq_left d, Nat.add_comm]; exact .del x h2
        · rw [Nat.min_eq_right d, Nat.add_comm]; exact .ins y h3
theorem Way.app {a b c d : List Int} {n m : Nat} (h : Way a b n) (h2 : Way c d m) : Way (a ++ c) (b ++ d) (n + m) := by
  induction h with
  | nil => simpa using h2
  | keep x _ ih => exact .keep x ih
  | rep x y _ ih => rw [Nat.add_right_comm]; exact .rep x y ih
  | del x _ ih => rw [Nat.add_right_comm]; exact .del x ih
  | ins y _ ih => rw [Nat.add_right_comm]; exact .ins y ih
theorem Way.rev {a b : List Int} {n : Nat} (h : Way a b n) : Way a.reverse b.reverse n := by
  induction h with
  | nil => exact .nil
  | keep x _ ih => simpa using ih.app (.keep x .nil)
  | rep x y _ ih => simpa using ih.app (.rep x y .nil)
  | del x _ ih => simpa using ih.app (.del x .nil)
  | ins y _ ih => simpa using ih.app (.ins y .nil)
theorem ld_rev (a b : List Int) : ld a.reverse b.reverse = ld a b := by
  have h1 := (Way.best _ a b (Nat.le_refl _)).rev.le
  have h2 := (Way.best _ a.reverse b.reverse (Nat.le_refl _)).rev.le
  simp only [List.reverse_reverse] at h2
  omega
end
section
/- The distance as the reference reckons it, in plain Lean. Conditions: none. -/
open Go

theorem ld_le (a b : List Int) : ld a b ≤ a.length + b.length := by
  have := ((Way.all2 a).app (Way.all b)).le
  simpa using this
theorem dd_ld (a b : List Int) : ∀ (k i j : Nat), i + j ≤ k → i ≤ a.length → j ≤ b.length → dd a b i j = ld (a.take i).reverse (b.take j).reverse := by
  intro k
  induction k with
  | zero =>
    intro i j h _ _
    obtain rfl : i = 0 := by omega
    obtain rfl : j = 0 := by omega
    simp [dd_zero, ld_nil]
  | succ k ih =>
    intro i j h hi hj
    cases i with
    | zero => rw [dd_zero]; simp [ld_nil]; omega
    | succ i =>
      cases j with
      | zero => rw [dd_left]; simp [ld_nil2]; omega
      | succ j =>
        rw [dd_step, take_snoc 0 (by omega : i < a.length), take_snoc 0 (by omega : j < b.length)]
        simp only [List.reverse_append, List.reverse_cons, List.reverse_nil, List.nil_append, List.singleton_append]
        rw [ld_cons]
        have e1 := ih i (j + 1) (by omega) (by omega) (by omega)
        have e2 := ih (i + 1) j (by omega) (by omega) (by omega)
        rw [take_snoc 0 (by omega : j < b.length)] at e1
        rw [take_snoc 0 (by omega : i < a.length)] at e2
        simp only [List.reverse_append, List.reverse_cons, List.reverse_nil, List.nil_append, List.singleton_append] at e1 e2
        rw [ih i j (by omega) (by omega) (by omega), e1, e2, Nat.min_right_comm]
theorem dd_all (a b : List Int) : dd a b a.length b.length = ld a b := by
  rw [dd_ld a b _ _ _ (Nat.le_refl _) (Nat.le_refl _) (Nat.le_refl _), List.take_length, List.take_length, ld_rev]

/-! ### the table -/
abbrev NM := List (Bool × List Int)
abbrev nd : Bool × List Int := (false, [])
def rowR (a b : List Int) (k : Nat) : List Int := (List.range (b.length + 1)).map fun j => ((ld (a.drop k) (b.drop j) : Nat) : Int)
theorem rowR_len (a b : List Int) (k : Nat) : (rowR a b k).length = b.length + 1 := by simp [rowR]
theorem rowR_get {a b : List Int} {k j : Nat} (h : j ≤ b.length) : (rowR a b k).getD j 0 = ((ld (a.drop k) (b.drop j) : Nat) : Int) := by
  simp [rowR, List.getD_eq_getElem?_getD, List.getElem?_map, show j < b.length + 1 by omega]
theorem nlGet_some {M : NM} {i j : Nat} (hi : i < M.length) (hj : j < (M.getD i nd).2.length) : nlGet M (i : Int) (j : Int) = some ((M.getD i nd).2.getD j 0) := by
  unfold nlGet
  rw [ix_get nd hi, Option.bind_some, ix_get 0 hj]
theorem nlPut_some {M : NM} {i j : Nat} {r : List Int} {v : Int} (hi : i < M.length) (hr : M.getD i nd = (true, r)) (hj : j < r.length) : nlPut M (i : Int) (j : Int) v = some (M.set i (true, r.set j v)) := by
  unfold nlPut
  rw [ix_get nd hi, Option.bind_some, hr]
  simp only [if_true]
  rw [setI_some (by omega) (by omega)]
  simp
theorem drop_cons {a : List Int} {i : Nat} (h : i < a.length) : a.drop i = a.getD i 0 :: a.drop (i + 1) := by
  rw [List.drop_eq_getElem_cons h]
  simp [h]

theorem table_L2 {n : Nat} {a b : List Int} {i : Nat} {M0 : NM} {r0 : List Int} (ha : a.length ≤ 1000000000) (hb : b.length ≤ 1000000000) (hi : i ≤ a.length) (hM : M0.length = a.length + 1) (hr : M0.getD i nd = (true, r0)) (hr0 : r0.length = b.length + 1)
    (hnext : i < a.length → M0.getD (i + 1) nd = (true, rowR a b (i + 1))) (hn : b.length + 1 < n) :
    ∃ t, iter n (fun s => m_ref11_table_L2 n a b (i : Int) s.1 s.2) ((b.length : Int), M0) = some t ∧ t.length = a.length + 1 ∧ t.getD i nd = (true, rowR a b i) ∧ ∀ q, q ≠ i → t.getD q nd = M0.getD q nd := by
  refine iter_inv (σ := Int × NM) (I := fun k s => s.1 = (k : Int) - 1 ∧ k ≤ b.length + 1 ∧ s.2.length = a.length + 1 ∧ (∃ r, s.2.getD i nd = (true, r) ∧ r.length = b.length + 1 ∧ ∀ x, k ≤ x → x ≤ b.length → r.getD x 0 = ((ld (a.drop i) (b.drop x) : Nat) : Int)) ∧ ∀ q, q ≠ i → s.2.getD q nd = M0.getD q nd)
    (Q := fun t : NM => t.length = a.length + 1 ∧ t.getD i nd = (true, rowR a b i) ∧ ∀ q, q ≠ i → t.getD q nd = M0.getD q nd) ?_ (b.length + 1) n _ ⟨by simp, by omega, hM, ⟨r0, hr, hr0, fun x h1 h2 => by omega⟩, fun _ _ => rfl⟩ hn
  rintro k ⟨c, M⟩ ⟨h1, h2, h3, ⟨r, h4, h5, h6⟩, h7⟩
  dsimp only at h1 h3 h4 h7
  subst h1
  simp only [m_ref11_table_L2]
  by_cases hk : k = 0
  · right
    subst hk
    refine ⟨M, by rw [if_neg (by simp)], h3, ?_, h7⟩
    rw [h4]
    congr 1
    refine List.ext_getElem (by rw [h5, rowR_len]) (fun x e1 e2 => ?_)
    have hx : x ≤ b.length := by omega
    have := h6 x (Nat.zero_le _) hx
    rw [← rowR_get (a := a) (k := i) hx] at this
    simpa [List.getD_eq_getElem?_getD, e1, e2] using this
  · left
    obtain ⟨j, rfl⟩ : ∃ j, k = j + 1 := ⟨k - 1, by omega⟩
    have e0 : ((j + 1 : Nat) : Int) - 1 = (j : Int) := by omega
    have hj : j ≤ b.length := by omega
    have hMi : i < M.length := by omega
    have hrj : j < (M.getD i nd).2.length := by rw [h4]; simp only; omega
    -- what is put in
    have put : ∀ v : Int, v = ((ld (a.drop i) (b.drop j) : Nat) : Int) → ∃ s', (nlPut M (i : Int) (j : Int) v).bind (fun t => some (Sum.inl (IntKind.i64.wrap ((j : Int) - 1), t) : (Int × NM) ⊕ NM)) = some (.inl s') ∧ s'.1 = (j : Int) - 1 ∧ s'.2.length = a.length + 1 ∧ (∃ r, s'.2.getD i nd = (true, r) ∧ r.length = b.length + 1 ∧ ∀ x, j ≤ x → x ≤ b.length → r.getD x 0 = ((ld (a.drop i) (b.drop x) : Nat) : Int)) ∧ ∀ q, q ≠ i → s'.2.getD q nd = M0.getD q nd := by
      rintro v rfl
      rw [nlPut_some hMi h4 (by omega), Option.bind_some]
      refine ⟨_, rfl, by simp only; rw [w64 (by omega) (by omega)], by simpa using h3, ⟨r.set j ((ld (a.drop i) (b.drop j) : Nat) : Int), ?_, by simpa using h5, fun x hx hx2 => ?_⟩, fun q hq => ?_⟩
      · simp only; rw [getD_set _ _ _ _ _ hMi, if_pos rfl]
      · rw [getD_set _ _ _ _ _ (by omega)]
        split
        · rename_i e; rw [e]
        · exact h6 x (by omega) hx2
      · simp only; rw [getD_set _ _ _ _ _ hMi, if_neg (Ne.symm hq)]; exact h7 q hq
    have fin : ∀ v : Int, v = ((ld (a.drop i) (b.drop j) : Nat) : Int) → ∃ s' k', (nlPut M (i : Int) (j : Int) v).bind (fun t => some (Sum.inl (IntKind.i64.wrap ((j : Int) - 1), t) : (Int × NM) ⊕ NM)) = some (.inl s') ∧ k' < j + 1 ∧ s'.1 = (k' : Int) - 1 ∧ k' ≤ b.length + 1 ∧ s'.2.length = a.length + 1 ∧ (∃ r, s'.2.getD i nd = (true, r) ∧ r.length = b.length + 1 ∧ ∀ x, k' ≤ x → x ≤ b.length → r.getD x 0 = ((ld (a.drop i) (b.drop x) : Nat) : Int)) ∧ ∀ q, q ≠ i → s'.2.getD q nd = M0.getD q nd := by
      intro v hv
      obtain ⟨s', q1, q2, q3, q4, q5⟩ := put v hv
      exact ⟨s', j, q1, by omega, q2, by omega, q3, q4, q5⟩
    have wb := ld_le (a.drop (i + 1)) (b.drop (j + 1))
    rw [e0, if_pos (by simp), ix_get nd hMi]
    simp only [Option.bind_some, nlGet_some hMi hrj]
    by_cases c1 : i = a.length
    · subst c1
      rw [if_pos (by simp)]
      simp only [Option.bind_assoc, Option.bind_some]
      refine fin _ ?_
      rw [List.drop_length, ld_nil, List.length_drop, w64 (by omega) (by omega)]; omega
    · rw [if_neg (by simp; omega)]
      have hia : i < a.length := by omega
      by_cases c2 : j = b.length
      · subst c2
        rw [if_pos (by simp)]
        simp only [Option.bind_assoc, Option.bind_some]
        refine fin _ ?_
        rw [List.drop_length, ld_nil2, List.length_drop, w64 (by omega) (by omega)]; omega
      · rw [if_neg (by simp; omega)]
        have hjb : j < b.length := by omega
        have w1 : IntKind.i64.wrap ((i : Int) + 1) = ((i + 1 : Nat) : Int) := by rw [w64 (by omega) (by omega)]; omega
        have w2 : IntKind.i64.wrap ((j : Int) + 1) = ((j + 1 : Nat) : Int) := by rw [w64 (by omega) (by omega)]; omega
        have hnx := hnext hia
        rw [← h7 (i + 1) (by omega)] at hnx
        have hM1 : i + 1 < M.length := by omega
        have g1 : nlGet M ((i + 1 : Nat) : Int) ((j + 1 : Nat) : Int) = some ((ld (a.drop (i + 1)) (b.drop (j + 1)) : Nat) : Int) := by
          rw [nlGet_some hM1 (by rw [hnx]; simp only [rowR_len]; omega), hnx]
          simp only; rw [rowR_get (by omega)]
        have g2 : nlGet M ((i + 1 : Nat) : Int) (j : Int) = some ((ld (a.drop (i + 1)) (b.drop j) : Nat) : Int) := by
          rw [nlGet_some hM1 (by rw [hnx]; simp only [rowR_len]; omega), hnx]
          simp only; rw [rowR_get (by omega)]
        have g3 : nlGet M (i : Int) ((j + 1 : Nat) : Int) = some ((ld (a.drop i) (b.drop (j + 1)) : Nat) : Int) := by
          rw [nlGet_some hMi (by rw [h4]; simp only; omega), h4]
          simp only; rw [h6 (j + 1) (by omega) (by omega)]
        rw [ix_get 0 hia, Option.bind_some, ix_get 0 hjb, Option.bind_some, w1, w2, ix_get nd hM1]
        simp only [Option.bind_some, g1, g2, g3]
        have hl : ld (a.drop i) (b.drop j) = if a.getD i 0 = b.getD j 0 then ld (a.drop (i + 1)) (b.drop (j + 1)) else 1 + min (min (ld (a.drop (i + 1)) (b.drop (j + 1))) (ld (a.drop (i + 1)) (b.drop j))) (ld (a.drop i) (b.drop (j + 1))) := by
          rw [drop_cons hia, drop_cons hjb, ld_cons]
        by_cases c3 : a.getD i 0 = b.getD j 0
        · rw [if_pos (by simp only [c3, decide_true])]
          simp only [Option.bind_assoc, Option.bind_some]
          refine fin _ ?_
          rw [hl, if_pos c3]
        · rw [if_neg (by simp only [c3, decide_false]; decide)]
          simp only [Option.bind_assoc, Option.bind_some]
          refine fin _ ?_
          rw [hl, if_neg c3]
          simp only [List.length_drop] at wb
          rw [w64 (by omega) (by omega)]; omega

theorem table_ok {a b : List Int} (ha : a.length ≤ 1000000000) (hb : b.length ≤ 1000000000) : ∃ T, m_ref11_table FU a b = some T ∧ T.length = a.length + 1 ∧ T.getD 0 [] = rowR a b 0 := by
  unfold m_ref11_table
  have e1 : IntKind.i64.wrap ((a.length : Int) + 1) = ((a.length + 1 : Nat) : Int) := by rw [w64 (by omega) (by omega)]; omega
  have e2 : IntKind.i64.wrap ((b.length : Int) + 1) = ((b.length + 1 : Nat) : Int) := by rw [w64 (by omega) (by omega)]; omega
  rw [e1, mkL_some (by omega) (by omega) (by omega), Option.bind_some]
  unfold Ab.toNl
  rw [if_neg (by simp), Option.bind_some]
  obtain ⟨t, h1, h2, h3⟩ := iter_inv (σ := Int × NM) (f := fun s => m_ref11_table_L1 FU a b s.1 s.2) (I := fun k s => s.1 = (k : Int) - 1 ∧ k ≤ a.length + 1 ∧ s.2.length = a.length + 1 ∧ ∀ q, k ≤ q → q ≤ a.length → s.2.getD q nd = (true, rowR a b q))
    (Q := fun t : NM => t.length = a.length + 1 ∧ t.getD 0 nd = (true, rowR a b 0)) (by
      rintro k ⟨c, M⟩ ⟨h1, h2, h3, h4⟩
      dsimp only at h1 h3 h4
      subst h1
      simp only [m_ref11_table_L1]
      by_cases hk : k = 0
      · right
        subst hk
        exact ⟨M, by rw [if_neg (by simp)], h3, h4 0 (Nat.le_refl _) (Nat.zero_le _)⟩
      · left
        obtain ⟨i, rfl⟩ : ∃ i, k = i + 1 := ⟨k - 1, by omega⟩
        have e0 : ((i + 1 : Nat) : Int) - 1 = (i : Int) := by omega
        have hMi : i < M.length := by omega
        rw [e0, if_pos (by simp), e2, mkL_some (by omega) (by omega) (by omega), Option.bind_some, ix_get nd hMi, Option.bind_some]
        unfold nlRow
        rw [if_pos ⟨by omega, by simpa using hMi⟩, Option.bind_some]
        simp only [Int.toNat_natCast]
        obtain ⟨t, q1, q2, q3, q4⟩ := table_L2 (n := FU) (a := a) (b := b) (i := i) (M0 := M.set i (true, List.replicate (b.length + 1) 0)) (r0 := List.replicate (b.length + 1) 0) ha hb (by omega) (by simpa using h3) (by rw [getD_set _ _ _ _ _ hMi, if_pos rfl]) (by simp)
          (fun hia => by rw [getD_set _ _ _ _ _ hMi, if_neg (by omega)]; exact h4 (i + 1) (by omega) (by omega)) (by simp only [FU]; omega)
        rw [q1, Option.bind_some]
        refine ⟨_, i, rfl, by omega, by simp only; rw [w64 (by omega) (by omega)], by omega, q2, fun q hq hq2 => ?_⟩
        simp only
        by_cases hqi : q = i
        · subst hqi; exact q3
        · rw [q4 q hqi, getD_set _ _ _ _ _ hMi, if_neg (by omega)]
          exact h4 q (by omega) hq2) (a.length + 1) FU ((a.length : Int), (List.replicate (((a.length + 1 : Nat) : Int).toNat) ([] : List Int)).map fun r => (false, r)) ⟨by simp, by omega, by simp, fun q h1 h2 => by omega⟩ (by simp only [FU]; omega)
  rw [h1, Option.bind_some]
  refine ⟨_, rfl, by simpa using h2, ?_⟩
  have : (t.map Prod.snd).getD 0 [] = (t.getD 0 nd).2 := by
    simp only [List.getD_eq_getElem?_getD, List.getElem?_map]
    cases t[0]? <;> rfl
  rw [this, h3]
theorem refdist_ok {a b : List Int} (ha : a.length ≤ 1000000000) (hb : b.length ≤ 1000000000) : m_ref11_Distance FU a b = some ((ld a b : Nat) : Int) := by
  obtain ⟨T, h1, h2, h3⟩ := table_ok ha hb
  unfold m_ref11_Distance
  have e : ix T (0 : Int) = some (T.getD 0 []) := ix_get (i := 0) [] (by omega)
  rw [h1, Option.bind_some, e, Option.bind_some, h3]
  have e2 : ix (rowR a b 0) (0 : Int) = some ((rowR a b 0).getD 0 0) := ix_get (i := 0) 0 (by rw [rowR_len]; omega)
  rw [e2, Option.bind_some, rowR_get (Nat.zero_le _)]
  simp
theorem refchars_ok {s : List UInt8} (h : s.length ≤ 1000000000) : m_ref11_Chars FU s = some (chs s) := (chars_ok h).1
theorem reftext_ok {a b : List UInt8} (ha : a.length ≤ 1000000000) (hb : b.length ≤ 1000000000) : ∃ v : Int, m_ref11_Text FU a b = some v ∧ decide (v ≤ 2) = nr a b := by
  have l1 := (chars_ok ha).2
  have l2 := (chars_ok hb).2
  unfold m_ref11_Text nr
  rw [refchars_ok ha, Option.bind_some, refchars_ok hb, Option.bind_some, refdist_ok (by omega) (by omega), Option.bind_some]
  refine ⟨_, rfl, ?_⟩
  rw [dd_all, decide_eq_decide]; omega
end
section
/- What the reference says of two records, in plain Lean. Conditions: none. -/
open Go

theorem ain_ok {l : List (List UInt8)} {x : List UInt8} (hl : l.length ≤ 1000000000) : m_ref31_in FU l x = some (l.any fun y => decide (y = x)) := by
  unfold m_ref31_in
  rw [iter_any l.length FU (fun i => decide (l.getD i [] = x)) (.inl true) (.inr ()) (fun j hj => by
      unfold m_ref31_in_L1
      rw [if_pos (by simp; omega), ix_get [] hj, Option.bind_some, wadd1 hj (by simp only [ML]; omega)]
      cases decide (l.getD j [] = x) <;> rfl) (by unfold m_ref31_in_L1; simp) (by simp only [FU]; omega), anyN_getD l [] (fun y => decide (y = x))]
  cases l.any fun y => decide (y = x) <;> rfl
theorem any_mem {l : List (List UInt8)} {x : List UInt8} : (l.any fun y => decide (y = x)) = decide (x ∈ l) := by
  rw [Bool.eq_iff_iff, List.any_eq_true]; simp

/-- Each word once, of the first so many. -/
def firsts (a : List (List UInt8)) : Nat → List (List UInt8)
  | 0 => []
  | i + 1 => if a.getD i [] ∈ a.take i then firsts a i else firsts a i ++ [a.getD i []]
theorem firsts_mem {a : List (List UInt8)} : ∀ {i : Nat}, i ≤ a.length → ∀ x, x ∈ firsts a i ↔ x ∈ a.take i
  | 0, _, x => by simp [firsts]
  | i + 1, h, x => by
    have ih := firsts_mem (a := a) (i := i) (by omega) x
    rw [take_snoc [] (by omega : i < a.length)]
    simp only [firsts]
    split
    · rename_i hm
      rw [ih, List.mem_append]
      constructor
      · exact .inl
      · rintro (h1 | h1)
        · exact h1
        · rw [List.mem_singleton.1 h1]; exact hm
    · rw [List.mem_append, List.mem_append, ih]
theorem firsts_nodup {a : List (List UInt8)} : ∀ {i : Nat}, i ≤ a.length → (firsts a i).Nodup
  | 0, _ => by simp [firsts]
  | i + 1, h => by
    have ih := firsts_nodup (a := a) (i := i) (by omega)
    simp only [firsts]
    split
    · exact ih
    · rename_i hm
      rw [List.nodup_append]
      refine ⟨ih, by simp, fun x hx y hy e => ?_⟩
      rw [List.mem_singleton.1 hy] at e
      rw [firsts_mem (by omega)] at hx
      exact hm (e ▸ hx)
theorem firsts_len {a : List (List UInt8)} : ∀ {i : Nat}, (firsts a i).length ≤ i
  | 0 => by simp [firsts]
  | i + 1 => by
    have := firsts_len (a := a) (i := i)
    simp only [firsts]
    split <;> simp <;> omega
abbrev fsts (a : List (List UInt8)) : List (List UInt8) := firsts a a.length
theorem fsts_mem {a : List (List UInt8)} {x : List UInt8} : x ∈ fsts a ↔ x ∈ a := by
  rw [firsts_mem (Nat.le_refl _), List.take_length]
def cmn (a b : List (List UInt8)) : Nat := (fsts a).countP (fun x => decide (x ∈ b))
theorem common_ok {a b : List (List UInt8)} (ha : a.length ≤ 1000000000) (hb : b.length ≤ 1000000000) : m_ref31_common FU a b = some ((cmn a b : Nat) : Int) := by
  unfold m_ref31_common
  obtain ⟨t, h1, h2⟩ := iter_inv (σ := Int × Int) (f := fun s => m_ref31_common_L1 FU a b s.1 s.2) (I := fun k s => ∃ j : Nat, s.2 = j ∧ j + k = a.length ∧ s.1 = (((firsts a j).countP (fun x => decide (x ∈ b)) : Nat) : Int))
    (Q := fun t : Int => t = ((cmn a b : Nat) : Int)) (by
      rintro k ⟨v, c⟩ ⟨j, h1, h2, h3⟩
      dsimp only at h1 h3
      subst h1 h3
      simp only [m_ref31_common_L1]
      by_cases hk : k = 0
      · right
        obtain rfl : j = a.length := by omega
        exact ⟨((cmn a b : Nat) : Int), by rw [if_neg (by simp)]; rfl, rfl⟩
      · left
        have hj : j < a.length := by omega
        have hc : (firsts a j).countP (fun x => decide (x ∈ b)) ≤ j := Nat.le_trans List.countP_le_length firsts_len
        rw [if_pos (by simp; omega), ix_get [] hj]
        simp only [Option.bind_some]
        rw [ain_ok hb, any_mem]
        simp only [Option.bind_some]
        have hs : slc a 0 (j : Int) = some (a.take j) := by rw [slc_some (by omega) (by omega) (by omega)]; simp
        rw [hs, wadd1 hj (by simp only [ML]; omega)]
        by_cases hm : a.getD j [] ∈ b
        · simp only [hm, decide_true, if_true, Option.bind_some]
          rw [ain_ok (by rw [List.length_take]; omega), any_mem]
          simp only [Option.bind_some]
          by_cases hf : a.getD j [] ∈ a.take j
          · simp only [hf, decide_true, Bool.not_true, Bool.and_false, Bool.false_eq_true, if_false, Option.bind_some]
            exact ⟨_, k - 1, rfl, by omega, j + 1, rfl, by omega, by simp only [firsts, if_pos hf]⟩
          · simp only [hf, decide_false, Bool.not_false, Bool.and_true, if_true, Option.bind_some]
            refine ⟨_, k - 1, rfl, by omega, j + 1, rfl, by omega, ?_⟩
            simp only [firsts, if_neg hf, List.countP_append, List.countP_singleton, hm, decide_true, if_true]
            rw [w64 (by omega) (by omega)]; omega
        · simp only [hm, decide_false, Bool.false_and, Bool.false_eq_true, if_false, Option.bind_some]
          refine ⟨_, k - 1, rfl, by omega, j + 1, rfl, by omega, ?_⟩
          simp only [firsts]
          split
          · rfl
          · simp only [List.countP_append, List.countP_singleton, hm, decide_false, Bool.false_eq_true, if_false, Nat.add_zero]) a.length FU ((0 : Int), (0 : Int)) ⟨0, rfl, by omega, by simp [firsts]⟩ (by simp only [FU]; omega)
  rw [h1, Option.bind_some, h2]
theorem cmn_self (a : List (List UInt8)) : cmn a a = (fsts a).length := by
  unfold cmn
  rw [List.countP_eq_length]
  intro x hx
  simp [fsts_mem.1 hx]
theorem cmn_le (a b : List (List UInt8)) : cmn a b ≤ a.length := Nat.le_trans List.countP_le_length firsts_len
theorem cmn_com (a b : List (List UInt8)) : decide ((0 : Int) < ((cmn a b : Nat) : Int)) = com a b := by
  rw [Bool.eq_iff_iff, com_iff, decide_eq_true_eq]
  unfold cmn
  rw [show ((0 : Int) < ((List.countP (fun x => decide (x ∈ b)) (fsts a) : Nat) : Int)) ↔ 0 < List.countP (fun x => decide (x ∈ b)) (fsts a) by omega, List.countP_pos_iff]
  constructor
  · rintro ⟨x, hx, h⟩; exact ⟨x, fsts_mem.1 hx, by simpa using h⟩
  · rintro ⟨x, hx, h⟩; exact ⟨x, fsts_mem.2 hx, by simpa using h⟩
theorem cmn_sym (a b : List (List UInt8)) : cmn a b = cmn b a := by
  unfold cmn
  rw [List.countP_eq_length_filter, List.countP_eq_length_filter]
  exact (perm_of_same ((firsts_nodup (Nat.le_refl _)).filter _) ((firsts_nodup (Nat.le_refl _)).filter _) (fun x => by
    simp only [List.mem_filter, fsts_mem, decide_eq_true_eq]; exact And.comm)).length_eq

/-! ### close words -/
theorem says_keys {M : WM} {a b : List (List UInt8)} (h : says M (vv a b)) (k : List UInt8) : k ∈ M.map (·.1) ↔ k ∈ a ∨ k ∈ b := by
  have h1 := mget_none (m := M) (k := k)
  rw [h.2] at h1
  unfold vv bt at h1
  by_cases ha : k ∈ a <;> by_cases hb : k ∈ b <;> simp [ha, hb] at h1 ⊢ <;> simpa using h1
theorem says_size {M : WM} {a b : List (List UInt8)} (h : says M (vv a b)) : M.length + cmn a b = (fsts a).length + (fsts b).length := by
  have p := perm_of_same (l := M.map (·.1)) (m := fsts a ++ (fsts b).filter (fun x => decide (x ∉ a))) h.1 (by
    rw [List.nodup_append]
    refine ⟨firsts_nodup (Nat.le_refl _), (firsts_nodup (Nat.le_refl _)).filter _, fun x hx y hy e => ?_⟩
    subst e
    simp only [List.mem_filter, decide_eq_true_eq] at hy
    exact hy.2 (fsts_mem.1 hx)) (fun x => by
    rw [says_keys h, List.mem_append, List.mem_filter, fsts_mem, fsts_mem, decide_eq_true_eq]
    by_cases hx : x ∈ a <;> simp [hx])
  have := p.length_eq
  rw [List.length_map, List.length_append, ← List.countP_eq_length_filter] at this
  rw [this, cmn_sym]
  unfold cmn
  have h2 := List.length_eq_countP_add_countP (fun x => decide (x ∈ a)) (l := fsts b)
  have e : List.countP (fun x => decide (x ∉ a)) (fsts b) = List.countP (fun x => decide ¬(decide (x ∈ a)) = true) (fsts b) := by
    congr 1; funext x; simp
  omega
theorem says_both {M : WM} {a b : List (List UInt8)} (h : says M (vv a b)) : M.countP (fun e => decide (e.2 = 3)) = cmn a b := by
  rw [says_count h]
  unfold cmn
  rw [List.countP_eq_length_filter, List.countP_eq_length_filter]
  refine (perm_of_same (h.1.filter _) ((firsts_nodup (Nat.le_refl _)).filter _) (fun x => ?_)).length_eq
  simp only [List.mem_filter, fsts_mem, decide_eq_true_eq, says_keys h]
  unfold vv bt
  by_cases ha : x ∈ a <;> by_cases hb : x ∈ b <;> simp [ha, hb]
theorem cw_ref {a b : List (List UInt8)} (ha : a.length ≤ 1000) (hb : b.length ≤ 1000) (h0 : 0 < a.length) :
    decide ((IntKind.i64.wrap ((3 : Int) * (IntKind.i64.wrap ((IntKind.i64.wrap (((cmn a a : Nat) : Int) + ((cmn b b : Nat) : Int))) - ((cmn a b : Nat) : Int))))) ≤ (IntKind.i64.wrap ((4 : Int) * ((cmn a b : Nat) : Int)))) = cw a b := by
  obtain ⟨M, h1, h2⟩ := closeWords_ok (a := a) (b := b) (by omega) (by omega)
  unfold cw
  rw [h2, says_both h1]
  have e1 := says_size h1
  have l1 := cmn_le a b
  have l2 := cmn_le a a
  have l3 := cmn_le b b
  rw [cmn_self] at l2 l3 ⊢
  rw [cmn_self]
  have hpos : 0 < M.length := by
    rcases Nat.eq_zero_or_pos M.length with h | h
    · have hM : M = [] := List.length_eq_zero_iff.1 h
      have := (says_keys h1 (a.getD 0 [])).2 (.inl (by simp [h0]))
      rw [hM] at this; cases this
    · exact h
  rw [w64 (x := ((fsts a).length : Int) + ((fsts b).length : Int)) (by omega) (by omega), w64 (x := ((fsts a).length : Int) + ((fsts b).length : Int) - ((cmn a b : Nat) : Int)) (by omega) (by omega), w64 (x := 3 * _) (by omega) (by omega), w64 (by omega) (by omega), w64 (by omega) (by omega)]
  simp only [Option.getD_some]
  rw [show decide ((0 : Int) < (M.length : Int)) = true from decide_eq_true (by omega), Bool.true_and, decide_eq_decide]
  omega

/-! ### the features -/
theorem zero_or {α β : Type} {a : List α} {b : List β} : ((decide ((a.length : Int) = (0 : Int))) || (decide ((b.length : Int) = (0 : Int)))) = !decide (0 < a.length ∧ 0 < b.length) := by
  rw [Bool.eq_iff_iff]; simp only [Bool.or_eq_true, decide_eq_true_eq, Bool.not_eq_true', decide_eq_false_iff_not]; omega
theorem sametexts_ok {a b : List (List UInt8)} (ha : a.length ≤ 1000000000) : m_ref29_SameTexts FU a b = some (decide (a = b)) := by
  unfold m_ref29_SameTexts
  by_cases hl : a.length = b.length
  · rw [if_neg (by simp [hl]), iter_any a.length FU (fun i => !decide (a.getD i [] = b.getD i [])) (.inl false) (.inr ()) (fun j hj => by
      unfold m_ref29_SameTexts_L1
      rw [if_pos (by simp; omega), ix_get [] hj, Option.bind_some, ix_get [] (by omega), Option.bind_some, wadd1 hj (by simp only [ML]; omega)]
      cases decide (a.getD j [] = b.getD j []) <;> rfl) (by unfold m_ref29_SameTexts_L1; simp) (by simp only [FU]; omega)]
    by_cases h : anyN a.length (fun i => !decide (a.getD i [] = b.getD i [])) = true
    · rw [if_pos h]
      obtain ⟨i, hi, h2⟩ := anyN_t.1 h
      have : a ≠ b := fun e => by subst e; simp at h2
      simp [this]
    · rw [if_neg h]
      have h' := anyN_f.1 (by simpa using h)
      have : a = b := getD_ext [] hl (fun i hi => by have := h' i hi; simpa using this)
      simp [this]
  · rw [if_pos (by simp; omega)]
    have : a ≠ b := fun e => hl (by rw [e])
    simp [this]
theorem join_snoc (l : List (List UInt8)) (x : List UInt8) (h : l ≠ []) : Lib.join (l ++ [x]) [32] = Lib.join l [32] ++ [32] ++ x := by
  cases l with
  | nil => exact absurd rfl h
  | cons y r =>
    rw [List.cons_append, Lib.join_cons, Lib.join_cons]
    simp [Lib.joinTail, List.append_assoc]
theorem appS_some {l l' : List UInt8} (h : l.length + l'.length ≤ 9223372036854775807) : appS l l' = some (l ++ l') := by rw [appS, if_pos h]
theorem joined_ok {l : List (List UInt8)} (h : l.length ≤ 200) (hw : ∀ w ∈ l, w.length ≤ 400) : m_ref31_joined FU l = some (jn l) := by
  unfold m_ref31_joined
  have small : ∀ j, (jn (l.take j)).length ≤ 100000 := fun j => jn_len (by rw [List.length_take]; omega) (fun w hw' => hw w (List.mem_of_mem_take hw'))
  obtain ⟨t, h1, h2⟩ := iter_inv (σ := List UInt8 × Int) (f := fun s => m_ref31_joined_L1 FU l s.1 s.2) (I := fun k s => ∃ j : Nat, s.2 = j ∧ j + k = l.length ∧ s.1 = jn (l.take j)) (Q := fun t => t = jn l) (by
      rintro k ⟨v, c⟩ ⟨j, h1, h2, h3⟩
      dsimp only at h1 h3
      subst h1 h3
      simp only [m_ref31_joined_L1]
      by_cases hk : k = 0
      · right
        obtain rfl : j = l.length := by omega
        exact ⟨_, by rw [if_neg (by simp)], by rw [List.take_length]⟩
      · left
        have hj : j < l.length := by omega
        have s1 := small j
        have s2 : (l.getD j []).length ≤ 400 := hw _ (by simp [hj])
        rw [if_pos (by simp; omega), ix_get [] hj, wadd1 hj (by simp only [ML]; omega)]
        simp only [Option.bind_some]
        by_cases h0 : j = 0
        · subst h0
          rw [if_neg (by simp), Option.bind_some, appS_some (l := jn (l.take 0)) (l' := l.getD 0 []) (by omega), Option.bind_some]
          refine ⟨_, k - 1, rfl, by omega, 1, rfl, by omega, ?_⟩
          rw [take_snoc [] hj]
          simp [jn, Lib.join_nil, Lib.join_one]
        · rw [if_pos (by simp only [decide_eq_true_eq]; omega), appS_some (l := jn (l.take j)) (l' := [32]) (by simp only [List.length_cons, List.length_nil]; omega), Option.bind_some, Option.bind_some, appS_some (l := jn (l.take j) ++ [32]) (l' := l.getD j []) (by simp only [List.length_append, List.length_cons, List.length_nil]; omega), Option.bind_some]
          refine ⟨_, k - 1, rfl, by omega, j + 1, rfl, by omega, ?_⟩
          rw [take_snoc [] hj]
          unfold jn
          rw [join_snoc _ _ (by intro e; have := congrArg List.length e; rw [List.length_take, List.length_nil] at this; omega)]) l.length FU (([] : List UInt8), (0 : Int)) ⟨0, rfl, by omega, rfl⟩ (by simp only [FU]; omega)
  rw [h1, Option.bind_some, h2]
theorem title_ok {a b : List (List UInt8)} (ha : a.length ≤ 200) (hb : b.length ≤ 200) (wa : ∀ w ∈ a, w.length ≤ 400) (wb : ∀ w ∈ b, w.length ≤ 400) : m_ref31_title FU a b = some (cT a b) := by
  unfold m_ref31_title cT
  rw [common_ok (by omega) (by omega), Option.bind_some, common_ok (by omega) (by omega), Option.bind_some, common_ok (by omega) (by omega), Option.bind_some]
  by_cases h0 : 0 < a.length ∧ 0 < b.length
  · rw [zero_or, if_neg (by simp [h0.1, h0.2]), if_pos h0, sametexts_ok (by omega), Option.bind_some, cw_ref (by omega) (by omega) h0.1]
    by_cases he : a = b
    · simp [he, ver]
    · simp only [he, decide_false, Bool.false_eq_true, if_false]
      cases hc : cw a b with
      | true => simp [ver]
      | false =>
        have j1 := jn_len ha wa
        have j2 := jn_len hb wb
        obtain ⟨v, h1, h2⟩ := reftext_ok (a := jn a) (b := jn b) (by omega) (by omega)
        simp only [Bool.not_false, if_true, Bool.false_or]
        rw [joined_ok ha wa, Option.bind_some, joined_ok hb wb, Option.bind_some, h1, Option.bind_some, h2]
        cases nr (jn a) (jn b) <;> rfl
  · rw [zero_or, if_pos (by simp only [decide_eq_false h0, Bool.not_false]), if_neg h0]
theorem author_ok {a b : List UInt8} (ha : a.length ≤ 1000000000) (hb : b.length ≤ 1000000000) : m_ref31_author FU a b = some (cA a b) := by
  unfold m_ref31_author cA
  by_cases h0 : a ≠ [] ∧ b ≠ []
  · rw [if_neg (by simp [h0.1, h0.2]), if_pos h0]
    by_cases he : a = b
    · simp [he, ver]
    · simp only [he, decide_false, Bool.false_eq_true, if_false]
      obtain ⟨v, h1, h2⟩ := reftext_ok ha hb
      rw [h1, Option.bind_some, h2]
      cases nr a b <;> rfl
  · rw [if_pos (by
      by_cases h1 : a = []
      · simp [h1]
      · have : b = [] := Classical.byContradiction fun h2 => h0 ⟨h1, h2⟩
        simp [this]), if_neg h0]
theorem sets_ok {a b : List (List UInt8)} (ha : a.length ≤ 1000000000) (hb : b.length ≤ 1000000000) (w : Bool) (z : Int) :
    m_ref31_sets FU a b w z = some (if 0 < a.length ∧ 0 < b.length then (if (w && decide (a = b) || !w && com a b) = true then 1 else if com a b = true then z else 3) else 0) := by
  unfold m_ref31_sets
  rw [common_ok ha hb, sametexts_ok ha]
  simp only [Option.bind_some, cmn_com]
  by_cases h0 : 0 < a.length ∧ 0 < b.length
  · rw [zero_or, if_neg (by simp [h0.1, h0.2]), if_pos h0]
    cases w with
    | false => simp only [Bool.false_eq_true, if_false, Option.bind_some, Bool.false_and, Bool.not_false, Bool.and_self, if_true, Bool.false_or, Bool.true_and, cmn_com]
               cases com a b <;> rfl
    | true =>
      by_cases he : a = b
      · simp [he]
      · simp only [he, if_true, decide_false, Bool.and_false, Bool.not_false, Bool.not_true, Bool.false_eq_true, if_false, Option.bind_some, Bool.false_and, Bool.or_self]
        cases com a b <;> rfl
  · rw [zero_or, if_pos (by simp only [decide_eq_false h0, Bool.not_false]), if_neg h0]

/-! ### years -/
def nb1 (b : List Int) (x : Int) : Bool := b.any fun y => decide (x - y = 1) || decide (x - y = -1)
theorem years_L2 {a b : List Int} {i : Nat} {s0 : Int} (hi : i < a.length) (hb : b.length ≤ 1000000000) (ra : ∀ x ∈ a, 1000 ≤ x ∧ x ≤ 2999) (rb : ∀ x ∈ b, 1000 ≤ x ∧ x ≤ 2999) :
    iter FU (fun s => m_ref31_years_L2 FU a b (i : Int) s.1 s.2) (s0, (0 : Int)) = some (if a.getD i 0 ∈ b then .inl 1 else .inr (if nb1 b (a.getD i 0) = true then 2 else s0)) := by
  have hx := ra (a.getD i 0) (by simp [hi])
  obtain ⟨t, h1, h2⟩ := iter_inv (σ := Int × Int) (f := fun s => m_ref31_years_L2 FU a b (i : Int) s.1 s.2) (I := fun k s => ∃ j : Nat, s.2 = j ∧ j + k = b.length ∧ a.getD i 0 ∉ b.take j ∧ s.1 = if nb1 (b.take j) (a.getD i 0) = true then 2 else s0)
    (Q := fun t : Int ⊕ Int => t = if a.getD i 0 ∈ b then .inl 1 else .inr (if nb1 b (a.getD i 0) = true then 2 else s0)) (by
      rintro k ⟨v, c⟩ ⟨j, h1, h2, h3, h4⟩
      dsimp only at h1 h4
      subst h1 h4
      simp only [m_ref31_years_L2]
      by_cases hk : k = 0
      · right
        obtain rfl : j = b.length := by omega
        rw [List.take_length] at h3
        exact ⟨_, by rw [if_neg (by simp)], by rw [List.take_length, if_neg h3]⟩
      · have hj : j < b.length := by omega
        have hy := rb (b.getD j 0) (by simp [hj])
        rw [if_pos (by simp; omega), ix_get 0 hi, Option.bind_some, ix_get 0 hj, Option.bind_some, wadd1 hj (by simp only [ML]; omega), w64 (x := a.getD i 0 - b.getD j 0) (by omega) (by omega)]
        by_cases e : a.getD i 0 = b.getD j 0
        · right
          rw [if_pos (by simp only [decide_eq_true_eq]; omega)]
          exact ⟨_, rfl, by rw [if_pos (by rw [e]; simp [hj])]⟩
        · left
          rw [if_neg (by simp only [decide_eq_true_eq]; omega)]
          have hn : nb1 (b.take (j + 1)) (a.getD i 0) = (nb1 (b.take j) (a.getD i 0) || (decide (a.getD i 0 - b.getD j 0 = 1) || decide (a.getD i 0 - b.getD j 0 = -1))) := by
            unfold nb1
            rw [take_snoc 0 hj]; simp
          have hm : a.getD i 0 ∉ b.take (j + 1) := by
            rw [take_snoc 0 hj, List.mem_append, List.mem_singleton]
            rintro (h | h)
            · exact h3 h
            · exact e h
          by_cases d : (decide (a.getD i 0 - b.getD j 0 = 1) || decide (a.getD i 0 - b.getD j 0 = -1)) = true
          · rw [if_pos d]
            exact ⟨_, k - 1, rfl, by omega, j + 1, rfl, by omega, hm, by rw [hn, d]; simp⟩
          · rw [if_neg d]
            exact ⟨_, k - 1, rfl, by omega, j + 1, rfl, by omega, hm, by rw [hn, Bool.eq_false_iff.2 d]; simp⟩) b.length FU (s0, (0 : Int)) ⟨0, rfl, by omega, by simp, by simp [nb1]⟩ (by simp only [FU]; omega)
  rw [h1, h2]
theorem refy_ok {a b : List Int} (ha : a.length ≤ 1000000000) (hb : b.length ≤ 1000000000) (ra : ∀ x ∈ a, 1000 ≤ x ∧ x ≤ 2999) (rb : ∀ x ∈ b, 1000 ≤ x ∧ x ≤ 2999) : m_ref31_years FU a b = some (cY a b) := by
  unfold m_ref31_years cY
  by_cases h0 : 0 < a.length ∧ 0 < b.length
  · rw [zero_or, if_neg (by simp [h0.1, h0.2]), if_pos h0]
    obtain ⟨t, h1, h2⟩ := iter_inv (σ := Int × Int) (f := fun s => m_ref31_years_L1 FU a b s.1 s.2) (I := fun k s => ∃ j : Nat, s.2 = j ∧ j + k = a.length ∧ (∀ x ∈ a.take j, x ∉ b) ∧ s.1 = if (a.take j).any (nb1 b) = true then 2 else 3)
      (Q := fun t : Int ⊕ Int => (match t with | .inl u => u | .inr u => u) = ver (com a b) (nbr a b)) (by
        rintro k ⟨v, c⟩ ⟨j, h1, h2, h3, h4⟩
        dsimp only at h1 h4
        subst h1 h4
        simp only [m_ref31_years_L1]
        by_cases hk : k = 0
        · right
          obtain rfl : j = a.length := by omega
          rw [List.take_length] at h3
          refine ⟨_, by rw [if_neg (by simp)], ?_⟩
          have hc : com a b = false := by
            rw [Bool.eq_false_iff, ne_eq, com_iff]
            rintro ⟨x, h5, h6⟩; exact h3 x h5 h6
          have hn : a.any (nb1 b) = nbr a b := by
            rw [Bool.eq_iff_iff, nbr_iff ra, List.any_eq_true]
            simp only [nb1, List.any_eq_true, Bool.or_eq_true, decide_eq_true_eq]
            exact ⟨fun ⟨x, h5, y, h6, h7⟩ => ⟨x, h5, y, h6, by omega⟩, fun ⟨x, h5, y, h6, h7⟩ => ⟨x, h5, y, h6, by omega⟩⟩
          simp only [List.take_length]
          rw [hc, hn]
          cases nbr a b <;> rfl
        · have hj : j < a.length := by omega
          rw [if_pos (by simp; omega), years_L2 hj hb ra rb, Option.bind_some, wadd1 hj (by simp only [ML]; omega)]
          by_cases hm : a.getD j 0 ∈ b
          · right
            simp only [if_pos hm]
            refine ⟨_, rfl, ?_⟩
            have hc : com a b = true := com_iff.2 ⟨a.getD j 0, by simp [hj], hm⟩
            rw [hc]; rfl
          · left
            simp only [if_neg hm]
            refine ⟨_, k - 1, rfl, by omega, j + 1, rfl, by omega, fun x hx => ?_, ?_⟩
            · rw [take_snoc 0 hj, List.mem_append, List.mem_singleton] at hx
              rcases hx with hx | hx
              · exact h3 x hx
              · rw [hx]; exact hm
            · rw [take_snoc 0 hj, List.any_append]
              simp only [List.any_cons, List.any_nil, Bool.or_false]
              cases (a.take j).any (nb1 b) <;> cases nb1 b (a.getD j 0) <;> rfl) a.length FU ((3 : Int), (0 : Int)) ⟨0, rfl, by omega, by simp, by simp⟩ (by simp only [FU]; omega)
    rw [h1, Option.bind_some]
    cases t <;> simp only at h2 ⊢ <;> rw [h2]
  · rw [zero_or, if_pos (by simp only [decide_eq_false h0, Bool.not_false]), if_neg h0]

theorem refcmp_ok {f g : SFeatures} (hf : FV f) (hg : FV g) : m_ref31_compare FU f g = some (cmp f g) := by
  have h1 := hf.t; have h2 := hg.t; have h3 := hf.a; have h4 := hg.a; have h5 := hf.y; have h6 := hg.y; have h7 := hf.i; have h8 := hg.i; have h9 := hf.l; have h10 := hg.l; have h11 := hf.p; have h12 := hg.p; have h13 := hf.e; have h14 := hg.e
  unfold m_ref31_compare cmp
  rw [title_ok hf.t hg.t hf.tw hg.tw, Option.bind_some, author_ok (by omega) (by omega), Option.bind_some, refy_ok (by omega) (by omega) hf.yr hg.yr, Option.bind_some, sets_ok (by omega) (by omega), Option.bind_some, sets_ok (by omega) (by omega), Option.bind_some,
    sets_ok (by omega) (by omega), Option.bind_some, sets_ok (by omega) (by omega), Option.bind_some]
  have eS : ∀ a b : List (List UInt8), (if 0 < a.length ∧ 0 < b.length then (if (false && decide (a = b) || !false && com a b) = true then 1 else if com a b = true then 1 else 3) else 0 : Int) = cS a b := fun a b => by
    unfold cS; cases com a b <;> simp [ver]
  have eP : ∀ a b : List (List UInt8), (if 0 < a.length ∧ 0 < b.length then (if (true && decide (a = b) || !true && com a b) = true then 1 else if com a b = true then 2 else 3) else 0 : Int) = cP a b := fun a b => by
    unfold cP; cases decide (a = b) <;> cases com a b <;> simp [ver]
  have eE : ∀ a b : List (List UInt8), (if 0 < a.length ∧ 0 < b.length then (if (true && decide (a = b) || !true && com a b) = true then 1 else if com a b = true then 3 else 3) else 0 : Int) = cE a b := fun a b => by
    unfold cE; cases decide (a = b) <;> cases com a b <;> simp [ver]
  rw [eS, eS, eP, eE]
end
section
/- Comparing, in plain Lean. Conditions: none. -/
open Go

theorem own29_ok (f : SFeatures) : m_law29_Own FU f = some f := rfl
end
section
/- The weights of all pairs, in plain Lean. Conditions: none. -/
open Go

abbrev sd : SFeatures := default
abbrev pd0 : SPair := default
/-- Where a record is. -/
noncomputable def fi (l : List SFeatures) (k : Int) : Int := (m_ref31_find FU l k).getD 0
theorem find_cases {l : List SFeatures} (hl : l.length ≤ 1000) (k : Int) : m_ref31_find FU l k = some (fi l k) ∧
    ((∃ i : Nat, i < l.length ∧ (l.getD i sd).fID = k ∧ (∀ q, q < i → (l.getD q sd).fID ≠ k) ∧ fi l k = (i : Int)) ∨ ((∀ i, i < l.length → (l.getD i sd).fID ≠ k) ∧ fi l k = -1)) := by
  have h := iter_scan (f := fun s => m_ref31_find_L1 FU l k s) l.length (fun i => decide ((l.getD i sd).fID = k)) (fun i => (.inl (i : Int) : Int ⊕ Unit)) (.inr ()) l.length 0 FU 0 (by omega) (fun j hj => by
    simp only [m_ref31_find_L1]
    rw [if_pos (by simp; omega), ix_get sd hj, Option.bind_some, wadd1 hj (by simp only [ML]; omega)]
    cases decide ((l.getD j sd).fID = k) <;> rfl) (by simp [m_ref31_find_L1]) (by simp only [FU]; omega) rfl
  rcases h with ⟨i, _, h2, h3, h4, h5⟩ | ⟨h1, h2⟩
  · have e : m_ref31_find FU l k = some (i : Int) := by unfold m_ref31_find; rw [h5]; rfl
    have e2 : fi l k = (i : Int) := by unfold fi; rw [e]; rfl
    refine ⟨by rw [e, e2], .inl ⟨i, h2, by simpa using h3, fun q hq => by simpa using h4 q (by omega) hq, e2⟩⟩
  · have e : m_ref31_find FU l k = some (-1) := by unfold m_ref31_find; rw [h2]; rfl
    have e2 : fi l k = -1 := by unfold fi; rw [e]; rfl
    exact ⟨by rw [e, e2], .inr ⟨fun i hi => by simpa using h1 i (by omega) hi, e2⟩⟩

/-- A number that is there already. -/
def dupAt (l : List SFeatures) (j : Nat) : Bool := anyN j fun i => decide ((l.getD i sd).fID = (l.getD j sd).fID)
theorem find_dup {l : List SFeatures} (hl : l.length ≤ 1000) {j : Nat} (hj : j < l.length) : decide (fi l (l.getD j sd).fID < (j : Int)) = dupAt l j := by
  rw [Bool.eq_iff_iff, decide_eq_true_eq]
  unfold dupAt
  rw [anyN_t]
  rcases (find_cases hl (l.getD j sd).fID).2 with ⟨i, h1, h2, h3, h4⟩ | ⟨h1, _⟩
  · rw [h4]
    constructor
    · intro h; exact ⟨i, by omega, by simpa using h2⟩
    · rintro ⟨q, hq, h⟩
      have : ¬ q < i := fun hlt => h3 q hlt (by simpa using h)
      omega
  · exact absurd rfl (h1 j hj)

/-- The map of places. -/
def mpl (l : List SFeatures) (j : Nat) : List (Int × Int) := (List.range j).map fun i => ((l.getD i sd).fID, (i : Int))
theorem mpl_keys (l : List SFeatures) (j : Nat) : (mpl l j).map (·.1) = (List.range j).map fun i => (l.getD i sd).fID := by
  simp [mpl, Function.comp_def]
theorem mpl_some (l : List SFeatures) (j : Nat) : (mget (mpl l j) (l.getD j sd).fID).isSome = dupAt l j := by
  rw [Bool.eq_iff_iff, Option.isSome_iff_ne_none, ne_eq, mget_none, Decidable.not_not, mpl_keys, List.mem_map]
  unfold dupAt
  rw [anyN_t]
  simp only [List.mem_range, decide_eq_true_eq]
theorem mpl_put {l : List SFeatures} {j : Nat} (h : dupAt l j = false) : mput (mpl l j) (l.getD j sd).fID (j : Int) = mpl l (j + 1) := by
  have h1 := mpl_some l j
  rw [h] at h1
  have h2 : mget (mpl l j) (l.getD j sd).fID = none := by simpa using h1
  rw [mget_none] at h2
  unfold mput
  rw [mfind_none.2 h2]
  simp [mpl, List.range_succ]
theorem all_L1 {l : List SFeatures} (hl : l.length ≤ 1000) : iter FU (fun s => m_match_All_L1 FU l s.1 s.2) ((0 : Int), []) = some (if anyN l.length (dupAt l) = true then .inl ([], 10) else .inr (mpl l l.length)) := by
  obtain ⟨t, h1, h2⟩ := iter_inv (σ := Int × List (Int × Int)) (f := fun s => m_match_All_L1 FU l s.1 s.2) (I := fun k s => ∃ j : Nat, s.1 = j ∧ j + k = l.length ∧ s.2 = mpl l j ∧ ∀ q, q < j → dupAt l q = false)
    (Q := fun t => t = if anyN l.length (dupAt l) = true then .inl ([], 10) else .inr (mpl l l.length)) (by
      rintro k ⟨c, M⟩ ⟨j, h1, h2, h3, h4⟩
      dsimp only at h1 h3
      subst h1 h3
      simp only [m_match_All_L1]
      by_cases hk : k = 0
      · right
        obtain rfl : j = l.length := by omega
        exact ⟨_, by rw [if_neg (by simp)], by rw [anyN_f.2 h4]; rfl⟩
      · have hj : j < l.length := by omega
        rw [if_pos (by simp; omega), ix_get sd hj]
        simp only [Option.bind_some, mpl_some]
        cases hd : dupAt l j with
        | true =>
          right
          exact ⟨_, rfl, by rw [anyN_t.2 ⟨j, hj, hd⟩]; rfl⟩
        | false =>
          left
          rw [mpl_put hd, wadd1 hj (by simp only [ML]; omega)]
          exact ⟨_, k - 1, rfl, by omega, j + 1, rfl, by omega, rfl, fun q hq => if e : q = j then e ▸ hd else h4 q (by omega)⟩) l.length FU ((0 : Int), []) ⟨0, rfl, by omega, rfl, fun q hq => by omega⟩ (by simp only [FU]; omega)
  rw [h1, h2]
theorem mpl_get {l : List SFeatures} (hl : l.length ≤ 1000) (hd : anyN l.length (dupAt l) = false) (k : Int) :
    (mget (mpl l l.length) k).isSome = !decide (fi l k < 0) ∧ ((mget (mpl l l.length) k).isSome = true → ((mget (mpl l l.length) k).getD 0) = fi l k ∧ 0 ≤ fi l k ∧ fi l k < l.length) := by
  have hnd : ((mpl l l.length).map (·.1)).Nodup := by
    rw [mpl_keys, List.Nodup, List.pairwise_map]
    refine List.Pairwise.imp_of_mem (R := fun a b => a < b) ?_ List.pairwise_lt_range
    intro a b ha hb hab e
    rw [List.mem_range] at ha hb
    have := anyN_f.1 hd b hb
    unfold dupAt at this
    have := anyN_f.1 this a hab
    rw [decide_eq_false_iff_not] at this
    exact this e
  rcases (find_cases hl k).2 with ⟨i, h1, h2, h3, h4⟩ | ⟨h1, h4⟩
  · have hm : mget (mpl l l.length) k = some (i : Int) := mem_mget hnd (by
      unfold mpl
      rw [List.mem_map]
      exact ⟨i, by simpa using h1, by rw [h2]⟩)
    rw [hm, h4]
    refine ⟨by simp, fun _ => ⟨rfl, by omega, by omega⟩⟩
  · have hm : mget (mpl l l.length) k = none := mget_none.2 (by
      rw [mpl_keys, List.mem_map]
      rintro ⟨i, hi, e⟩
      exact h1 i (by simpa using hi) e)
    rw [hm, h4]
    exact ⟨rfl, fun h => by cases h⟩

theorem getD_in {α : Type} {l : List α} {k : Nat} {d : α} (h : k < l.length) : l.getD k d ∈ l := by simp [h]
/-! ### pairs -/
noncomputable def missAt (l : List SFeatures) (ps : List SPair) (j : Nat) : Bool := decide (fi l (ps.getD j pd0).fA < 0) || decide (fi l (ps.getD j pd0).fB < 0)
theorem all_L2 {l : List SFeatures} {ps : List SPair} (hl : l.length ≤ 1000) (hp : ps.length ≤ 1000) (hd : anyN l.length (dupAt l) = false) :
    iter FU (fun s => m_match_All_L2 FU ps (mpl l l.length) s) (0 : Int) = some (if anyN ps.length (missAt l ps) = true then .inl ([], 9) else .inr ()) :=
  iter_any (ρ := (List SWeighted × Int) ⊕ Unit) (f := fun s => m_match_All_L2 FU ps (mpl l l.length) s) ps.length FU (missAt l ps) (.inl ([], 9)) (.inr ()) (fun j hj => by
    simp only [m_match_All_L2]
    rw [if_pos (by simp; omega), ix_get pd0 hj, Option.bind_some, (mpl_get hl hd _).1, (mpl_get hl hd _).1, wadd1 hj (by simp only [ML]; omega)]
    simp only [Bool.not_not]
    unfold missAt
    cases (decide (fi l (ps.getD j pd0).fA < 0) || decide (fi l (ps.getD j pd0).fB < 0)) <;> rfl) (by simp [m_match_All_L2]) (by simp only [FU]; omega)
theorem ref_L3 {l : List SFeatures} {ps : List SPair} (hl : l.length ≤ 1000) (hp : ps.length ≤ 1000) :
    iter FU (fun s => m_ref31_All_L3 FU l ps s) (0 : Int) = some (if anyN ps.length (missAt l ps) = true then .inl ([], 9) else .inr ()) :=
  iter_any (ρ := (List SWeighted × Int) ⊕ Unit) (f := fun s => m_ref31_All_L3 FU l ps s) ps.length FU (missAt l ps) (.inl ([], 9)) (.inr ()) (fun j hj => by
    simp only [m_ref31_All_L3]
    rw [if_pos (by simp; omega), ix_get pd0 hj, Option.bind_some, (find_cases hl _).1, Option.bind_some, wadd1 hj (by simp only [ML]; omega)]
    unfold missAt
    cases hA : decide (fi l (ps.getD j pd0).fA < 0) with
    | true => simp
    | false =>
      simp only [Bool.not_false, if_true, Option.bind_some, Bool.false_or]
      rw [(find_cases hl _).1, Option.bind_some]
      cases decide (fi l (ps.getD j pd0).fB < 0) <;> rfl) (by simp [m_ref31_All_L3]) (by simp only [FU]; omega)

/-- Pairs out of order. -/
def ordAt (ps : List SPair) (j : Nat) : Bool := decide ((ps.getD j pd0).fB ≤ (ps.getD j pd0).fA) || (decide (0 < j) && (decide ((ps.getD j pd0).fA < (ps.getD (j - 1) pd0).fA) || (decide ((ps.getD j pd0).fA = (ps.getD (j - 1) pd0).fA) && decide ((ps.getD j pd0).fB ≤ (ps.getD (j - 1) pd0).fB))))
theorem ord_eval {τ : Type} {ps : List SPair} (hp : ps.length ≤ 1000) {j : Nat} (hj : j < ps.length) (X Y : Option τ) :
    (((if ((!(decide ((ps.getD j pd0).fB ≤ (ps.getD j pd0).fA))) && (decide ((0 : Int) < (j : Int)))) = true then ix ps (IntKind.i64.wrap ((j : Int) - (1 : Int))) else some default)).bind fun v14 =>
    ((if (((!(decide ((ps.getD j pd0).fB ≤ (ps.getD j pd0).fA))) && (decide ((0 : Int) < (j : Int)))) && (!(decide ((ps.getD j pd0).fA < v14.fA)))) = true then ix ps (IntKind.i64.wrap ((j : Int) - (1 : Int))) else some default)).bind fun v15 =>
    ((if ((((!(decide ((ps.getD j pd0).fB ≤ (ps.getD j pd0).fA))) && (decide ((0 : Int) < (j : Int)))) && (!(decide ((ps.getD j pd0).fA < v14.fA)))) && (decide ((ps.getD j pd0).fA = v15.fA))) = true then ix ps (IntKind.i64.wrap ((j : Int) - (1 : Int))) else some default)).bind fun v16 =>
    if ((decide ((ps.getD j pd0).fB ≤ (ps.getD j pd0).fA)) || ((decide ((0 : Int) < (j : Int))) && ((decide ((ps.getD j pd0).fA < v14.fA)) || ((decide ((ps.getD j pd0).fA = v15.fA)) && (decide ((ps.getD j pd0).fB ≤ v16.fB)))))) = true then X else Y) = if ordAt ps j = true then X else Y := by
  unfold ordAt
  have hq : ¬ j = 0 → ix ps (IntKind.i64.wrap ((j : Int) - 1)) = some (ps.getD (j - 1) pd0) := fun h0 => by
    rw [show IntKind.i64.wrap ((j : Int) - 1) = ((j - 1 : Nat) : Int) by rw [w64 (by omega) (by omega)]; omega, ix_get pd0 (by omega : j - 1 < ps.length)]
  generalize ps.getD j pd0 = p
  generalize ps.getD (j - 1) pd0 = q at hq ⊢
  cases h1 : decide (p.fB ≤ p.fA) with
  | true => simp
  | false =>
    by_cases h0 : j = 0
    · subst h0; simp
    · rw [hq h0]
      have e1 : decide ((0 : Int) < (j : Int)) = true := decide_eq_true (by omega)
      have e2 : decide (0 < j) = true := decide_eq_true (by omega)
      simp only [e1, e2, Bool.not_false, Bool.true_and, if_true, Option.bind_some, Bool.false_or]
      cases h2 : decide (p.fA < q.fA) with
      | true => cases h3 : decide (p.fA = (default : SPair).fA) <;> simp
      | false =>
        simp only [Bool.not_false, if_true, Option.bind_some, Bool.false_or, Bool.true_and]
        cases h3 : decide (p.fA = q.fA) with
        | true => simp
        | false => simp
theorem all_L3 {ps : List SPair} (hp : ps.length ≤ 1000) : iter FU (fun s => m_match_All_L3 FU ps s) (0 : Int) = some (if anyN ps.length (ordAt ps) = true then .inl ([], 19) else .inr ()) :=
  iter_any (ρ := (List SWeighted × Int) ⊕ Unit) (f := fun s => m_match_All_L3 FU ps s) ps.length FU (ordAt ps) (.inl ([], 19)) (.inr ()) (fun j hj => by
    simp only [m_match_All_L3]
    rw [if_pos (by simp; omega), ix_get pd0 hj, Option.bind_some, wadd1 hj (by simp only [ML]; omega), ord_eval hp hj]
    cases ordAt ps j <;> rfl) (by simp [m_match_All_L3]) (by simp only [FU]; omega)

noncomputable def wOf (m : A72) (l : List SFeatures) (p : SPair) : SWeighted := ⟨⟨p.fA, p.fB⟩, wt (fac m (cmp (l.getD (fi l p.fA).toNat sd) (l.getD (fi l p.fB).toNat sd)))⟩
theorem take_map {α β : Type} {l : List α} {i : Nat} (d : α) (h : α → β) (hi : i < l.length) : (l.take (i + 1)).map h = (l.take i).map h ++ [h (l.getD i d)] := by
  rw [take_snoc d hi]; simp
theorem cmp_oin (f g : SFeatures) : oin (cmp f g) = true := by
  have r := ver_range
  have c : ∀ {p : Prop} [Decidable p] {a b : Bool}, 0 ≤ (if p then ver a b else 0) ∧ (if p then ver a b else 0) ≤ 3 := fun {p _ a b} => by
    have := r a b
    split <;> omega
  rw [oin_iff]
  intro x hx
  simp only [A7.l, cmp, List.mem_cons, List.not_mem_nil, or_false] at hx
  rcases hx with rfl | rfl | rfl | rfl | rfl | rfl | rfl <;> exact c
theorem all_L4 {m : A72} {l : List SFeatures} {ps : List SPair} (hm : mvl m = true) (hl : l.length ≤ 1000) (hp : ps.length ≤ 1000) (hd : anyN l.length (dupAt l) = false) (hmi : anyN ps.length (missAt l ps) = false) (hv : ∀ f ∈ l, FOk f ∧ fv f = true) :
    iter FU (fun s => m_match_All_L4 FU m l ps (mpl l l.length) s.1 s.2) ([], (0 : Int)) = some (ps.map (wOf m l)) := by
  obtain ⟨t, h1, h2⟩ := iter_inv (σ := List SWeighted × Int) (f := fun s => m_match_All_L4 FU m l ps (mpl l l.length) s.1 s.2) (I := fun k s => ∃ j : Nat, s.2 = j ∧ j + k = ps.length ∧ s.1 = (ps.take j).map (wOf m l))
    (Q := fun t => t = ps.map (wOf m l)) (by
      rintro k ⟨M, c⟩ ⟨j, h1, h2, h3⟩
      dsimp only at h1 h3
      subst h1 h3
      simp only [m_match_All_L4]
      by_cases hk : k = 0
      · right
        obtain rfl : j = ps.length := by omega
        exact ⟨_, by rw [if_neg (by simp)], by rw [List.take_length]⟩
      · left
        have hj : j < ps.length := by omega
        have hmm := anyN_f.1 hmi j hj
        unfold missAt at hmm
        simp only [Bool.or_eq_false_iff] at hmm
        obtain ⟨qa, qb⟩ := hmm
        have ga := mpl_get hl hd (ps.getD j pd0).fA
        have gb := mpl_get hl hd (ps.getD j pd0).fB
        obtain ⟨a1, a2, a3⟩ := ga.2 (by rw [ga.1, qa]; rfl)
        obtain ⟨b1, b2, b3⟩ := gb.2 (by rw [gb.1, qb]; rfl)
        have hA : (fi l (ps.getD j pd0).fA).toNat < l.length := by omega
        have hB : (fi l (ps.getD j pd0).fB).toNat < l.length := by omega
        have vA := hv _ (getD_in (d := sd) hA)
        have vB := hv _ (getD_in (d := sd) hB)
        rw [if_pos (by simp; omega), ix_get pd0 hj]
        simp only [Option.bind_some]
        rw [a1, b1, ix_int sd a2 a3, ix_int sd b2 b3]
        simp only [Option.bind_some]
        rw [compare_ok vA.1 vB.1, vA.2, vB.2]
        simp only [Bool.and_self, if_true, Option.bind_some]
        rw [weight_ok m (cmp (l.getD (fi l (ps.getD j pd0).fA).toNat sd) (l.getD (fi l (ps.getD j pd0).fB).toNat sd)), hm, cmp_oin]
        simp only [Bool.and_self, if_true, Option.bind_some]
        rw [app_one (by simp only [List.length_map, List.length_take]; omega) (by simp only [List.length_map, List.length_take]; omega), Option.bind_some, wadd1 hj (by simp only [ML]; omega)]
        exact ⟨_, k - 1, rfl, by omega, j + 1, rfl, by omega, by rw [take_map pd0 _ hj]; rfl⟩) ps.length FU ([], (0 : Int)) ⟨0, rfl, by omega, rfl⟩ (by simp only [FU]; omega)
  rw [h1, h2]
theorem ref_L4 {m : A72} {l : List SFeatures} {ps : List SPair} (hm : mvl m = true) (hl : l.length ≤ 1000) (hp : ps.length ≤ 1000) (hmi : anyN ps.length (missAt l ps) = false) (hv : ∀ f ∈ l, FOk f ∧ fv f = true) :
    iter FU (fun s => m_ref31_All_L4 FU m l ps s.1 s.2) ([], (0 : Int)) = some (if anyN ps.length (ordAt ps) = true then .inl ([], 19) else .inr (ps.map (wOf m l))) := by
  obtain ⟨t, h1, h2⟩ := iter_inv (σ := List SWeighted × Int) (f := fun s => m_ref31_All_L4 FU m l ps s.1 s.2) (I := fun k s => ∃ j : Nat, s.2 = j ∧ j + k = ps.length ∧ s.1 = (ps.take j).map (wOf m l) ∧ ∀ q, q < j → ordAt ps q = false)
    (Q := fun t => t = if anyN ps.length (ordAt ps) = true then .inl ([], 19) else .inr (ps.map (wOf m l))) (by
      rintro k ⟨M, c⟩ ⟨j, h1, h2, h3, h4⟩
      dsimp only at h1 h3
      subst h1 h3
      simp only [m_ref31_All_L4]
      by_cases hk : k = 0
      · right
        obtain rfl : j = ps.length := by omega
        exact ⟨_, by rw [if_neg (by simp)], by rw [List.take_length, anyN_f.2 h4]; rfl⟩
      · have hj : j < ps.length := by omega
        have hmm := anyN_f.1 hmi j hj
        unfold missAt at hmm
        simp only [Bool.or_eq_false_iff, decide_eq_false_iff_not] at hmm
        obtain ⟨qa, qb⟩ := hmm
        have bnd : ∀ k, ¬ fi l k < 0 → fi l k < l.length := fun k hk => by
          rcases (find_cases hl k).2 with ⟨i, q1, _, _, q2⟩ | ⟨_, q2⟩ <;> omega
        have a3 := bnd _ qa
        have b3 := bnd _ qb
        have hA : (fi l (ps.getD j pd0).fA).toNat < l.length := by omega
        have hB : (fi l (ps.getD j pd0).fB).toNat < l.length := by omega
        have vA := hv _ (getD_in (d := sd) hA)
        have vB := hv _ (getD_in (d := sd) hB)
        rw [if_pos (by simp; omega), ix_get pd0 hj]
        simp only [Option.bind_some]
        have sym : ∀ v : SPair, decide (v.fA = (ps.getD j pd0).fA) = decide ((ps.getD j pd0).fA = v.fA) := fun v => by rw [decide_eq_decide]; exact eq_comm
        simp only [sym]
        rw [ord_eval hp hj]
        cases ho : ordAt ps j with
        | true =>
          right
          exact ⟨_, rfl, by rw [anyN_t.2 ⟨j, hj, ho⟩]; rfl⟩
        | false =>
          left
          simp only [Bool.false_eq_true, if_false]
          rw [(find_cases hl _).1, Option.bind_some, ix_int sd (by omega) a3, Option.bind_some, (find_cases hl _).1, Option.bind_some, ix_int sd (by omega) b3, Option.bind_some, refcmp_ok (fv_small vA.2) (fv_small vB.2), Option.bind_some]
          rw [refweight_ok m (cmp (l.getD (fi l (ps.getD j pd0).fA).toNat sd) (l.getD (fi l (ps.getD j pd0).fB).toNat sd)), hm, cmp_oin]
          simp only [Bool.and_self, if_true, Option.bind_some]
          rw [app_one (by simp only [List.length_map, List.length_take]; omega) (by simp only [List.length_map, List.length_take]; omega), Option.bind_some, wadd1 hj (by simp only [ML]; omega)]
          exact ⟨_, k - 1, rfl, by omega, j + 1, rfl, by omega, by rw [take_map pd0 _ hj]; rfl, fun q hq => if e : q = j then e ▸ ho else h4 q (by omega)⟩) ps.length FU ([], (0 : Int)) ⟨0, rfl, by omega, rfl, fun q hq => by omega⟩ (by simp only [FU]; omega)
  rw [h1, h2]

/-- What both return. -/
noncomputable def allS (m : A72) (l : List SFeatures) (ps : List SPair) : List SWeighted × Int :=
  if (!mvl m || l.any fun f => !fv f) = true then ([], 1) else if anyN l.length (dupAt l) = true then ([], 10) else if anyN ps.length (missAt l ps) = true then ([], 9) else if anyN ps.length (ordAt ps) = true then ([], 19) else (ps.map (wOf m l), 0)
theorem all_ok {m : A72} {l : List SFeatures} {ps : List SPair} (hl : l.length ≤ 1000) (hp : ps.length ≤ 1000) (hf : ∀ f ∈ l, FOk f) : m_match_All FU m l ps = some (allS m l ps) := by
  unfold m_match_All allS
  rw [valid_ok m]
  have e : m_slices_ContainsFunc_feature_Features_feature_Features FU l (fun y1 => m_match_All_1 FU y1) = some (l.any fun f => !fv f) :=
    contains_loop FU l (fun y1 => m_match_All_1 FU y1) (fun f => !fv f) (fun f hm => by
      unfold m_match_All_1; rw [feature_ok (hf f hm) (by decide)]; rfl) (by simp only [ML]; omega) (by simp only [FU]; omega)
  simp only [Option.bind_some]
  rw [e]
  cases hm : mvl m with
  | false => simp
  | true =>
    simp only [Bool.not_true, Bool.not_false, if_true, Option.bind_some, Bool.false_or]
    cases ha : l.any (fun f => !fv f) with
    | true => simp
    | false =>
      simp only [Bool.false_eq_true, if_false]
      rw [all_L1 hl]
      cases hd : anyN l.length (dupAt l) with
      | true => simp
      | false =>
        simp only [Bool.false_eq_true, if_false, Option.bind_some]
        rw [all_L2 hl hp hd]
        cases hmi : anyN ps.length (missAt l ps) with
        | true => simp
        | false =>
          simp only [Bool.false_eq_true, if_false, Option.bind_some]
          rw [all_L3 hp]
          cases ho : anyN ps.length (ordAt ps) with
          | true => simp
          | false =>
            simp only [Bool.false_eq_true, if_false, Option.bind_some]
            rw [all_L4 hm hl hp hd hmi (fun f hm' => ⟨hf f hm', by
              have := List.any_eq_false.1 ha f hm'
              simpa using this⟩)]
            rfl
theorem ref_ok {m : A72} {l : List SFeatures} {ps : List SPair} (hl : l.length ≤ 1000) (hp : ps.length ≤ 1000) (hf : ∀ f ∈ l, FOk f) : m_ref31_All FU m l ps = some (allS m l ps) := by
  unfold m_ref31_All allS
  rw [refvalid_ok m]
  simp only [Option.bind_some]
  cases hm : mvl m with
  | false => simp
  | true =>
    simp only [Bool.not_true, Bool.false_eq_true, if_false, Bool.false_or]
    rw [iter_any l.length FU (fun j => !fv (l.getD j sd)) (.inl ([], 1)) (.inr ()) (fun j hj => by
      simp only [m_ref31_All_L1]
      rw [if_pos (by simp; omega), ix_get sd hj, Option.bind_some, refv_ok (hf _ (by simp [hj])), Option.bind_some, wadd1 hj (by simp only [ML]; omega)]
      cases fv (l.getD j sd) <;> rfl) (by simp [m_ref31_All_L1]) (by simp only [FU]; omega), anyN_getD l sd (fun f => !fv f)]
    cases ha : l.any (fun f => !fv f) with
    | true => simp
    | false =>
      simp only [Bool.false_eq_true, if_false, Option.bind_some]
      rw [iter_any l.length FU (dupAt l) (.inl ([], 10)) (.inr ()) (fun j hj => by
        simp only [m_ref31_All_L2]
        rw [if_pos (by simp; omega), ix_get sd hj, Option.bind_some, (find_cases hl _).1, Option.bind_some, find_dup hl hj, wadd1 hj (by simp only [ML]; omega)]
        cases dupAt l j <;> rfl) (by simp [m_ref31_All_L2]) (by simp only [FU]; omega)]
      cases hd : anyN l.length (dupAt l) with
      | true => simp
      | false =>
        simp only [Bool.false_eq_true, if_false, Option.bind_some]
        rw [ref_L3 hl hp]
        cases hmi : anyN ps.length (missAt l ps) with
        | true => simp
        | false =>
          simp only [Bool.false_eq_true, if_false, Option.bind_some]
          rw [ref_L4 hm hl hp hmi (fun f hm' => ⟨hf f hm', by
              have := List.any_eq_false.1 ha f hm'
              simpa using this⟩)]
          cases ho : anyN ps.length (ordAt ps) with
          | true => simp
          | false => simp
theorem owns_ok {l : List SFeatures} (hl : l.length ≤ 1000) : m_law29_Owns FU l = some l := by
  unfold m_law29_Owns
  obtain ⟨t, h1, h2⟩ := iter_inv (σ := List SFeatures × Int) (f := fun s => m_law29_Owns_L1 FU l s.1 s.2) (I := fun k s => ∃ j : Nat, s.2 = j ∧ j + k = l.length ∧ s.1 = l.take j) (Q := fun t => t = l) (by
      rintro k ⟨M, c⟩ ⟨j, h1, h2, h3⟩
      dsimp only at h1 h3
      subst h1 h3
      simp only [m_law29_Owns_L1]
      by_cases hk : k = 0
      · right
        obtain rfl : j = l.length := by omega
        exact ⟨_, by rw [if_neg (by simp)], by rw [List.take_length]⟩
      · left
        have hj : j < l.length := by omega
        rw [if_pos (by simp; omega), ix_get sd hj, Option.bind_some, own29_ok, Option.bind_some, app_one (by simp only [List.length_take]; omega) (by simp only [List.length_take]; omega), Option.bind_some, wadd1 hj (by simp only [ML]; omega)]
        exact ⟨_, k - 1, rfl, by omega, j + 1, rfl, by omega, by rw [take_snoc sd hj]⟩) l.length FU ([], (0 : Int)) ⟨0, rfl, by omega, by simp⟩ (by simp only [FU]; omega)
  rw [h1, Option.bind_some, h2]
theorem allS_len (m : A72) (l : List SFeatures) (ps : List SPair) : (allS m l ps).1.length ≤ ps.length := by
  unfold allS
  split
  · simp
  · split
    · simp
    · split
      · simp
      · split <;> simp
theorem plain_MatchAll {m : A72} {l : List SFeatures} {ps : List SPair} (hf : ∀ f ∈ l, FB f) : m_law31_MatchAll FU m l ps = some true := by
  unfold m_law31_MatchAll
  rw [awake31]
  simp only [Option.bind_some, Bool.not_true, Bool.false_or]
  by_cases hc : (decide ((6 : Int) < (l.length : Int)) || decide ((15 : Int) < (ps.length : Int))) = true
  · rw [if_pos hc]
  · rw [if_neg hc]
    simp only [Bool.or_eq_true, decide_eq_true_eq, not_or] at hc
    have hl : l.length ≤ 1000 := by omega
    have hp : ps.length ≤ 1000 := by omega
    have hfo : ∀ f ∈ l, FOk f := fun f hm => (hf f hm).ok
    rw [iter_any l.length FU (fun j => !((m_ref29_Few FU (l.getD j sd)).getD false)) (.inl true) (.inr ()) (fun j hj => by
      simp only [m_law31_MatchAll_L1]
      obtain ⟨b, hb⟩ := few_ok (hf (l.getD j sd) (by simp [hj]))
      rw [if_pos (by simp; omega), ix_get sd hj, Option.bind_some, hb, Option.bind_some, wadd1 hj (by simp only [ML]; omega)]
      cases b <;> rfl) (by simp [m_law31_MatchAll_L1]) (by simp only [FU]; omega)]
    cases anyN l.length (fun j => !((m_ref29_Few FU (l.getD j sd)).getD false)) with
    | true => simp
    | false =>
      simp only [Bool.false_eq_true, if_false, Option.bind_some]
      rw [own_ok m]
      simp only [Option.bind_some]
      rw [owns_ok hl, Option.bind_some, all_ok hl hp hfo, Option.bind_some, ref_ok hl hp hfo, Option.bind_some]
      rw [if_neg (by simp)]
      have := allS_len m l ps
      rw [iter_any (allS m l ps).1.length FU (fun _ => false) (.inl false) (.inr ()) (fun j hj => by
        simp only [m_law31_MatchAll_L2]
        rw [if_pos (by simp; omega), ix_get default hj, Option.bind_some, Option.bind_some, wadd1 hj (by simp only [ML]; omega)]
        simp) (by simp [m_law31_MatchAll_L2]) (by simp only [FU]; omega), anyN_f.2 (fun _ _ => rfl)]
      rfl
end
end Go.Proofs.YtgcmhhcopeiomaaGreat.Ab
