/- The distance as the reference reckons it, in plain Lean. Conditions: none. -/
import Derived.Test.YtgcmhhcopeiomaaGreatDva
import Derived.Test.YtgcmhhcopeiomaaGreatWa
namespace Go.Proofs.YtgcmhhcopeiomaaGreat.Ab
open Go

theorem ld_le (a b : List Int) : ld a b ≤ a.length + b.length := by
  have := ((Way.all2 a).app (Way.all b)).le
  simpa using this
theorem dd_ld (a b : List Int) : ∀ (k i j : Nat), i + j ≤ k → i ≤ a.length → j ≤ b.length → dd a b i j = ld (a.take i).reverse (b.take j).reverse := by
  intro k
  induction k with
  | zero =>
    intro i j h _ _
    obtain rfl : i = 0 := by omega
    obtain rfl : j = 0 := by omega
    simp [dd_zero, ld_nil]
  | succ k ih =>
    intro i j h hi hj
    cases i with
    | zero => rw [dd_zero]; simp [ld_nil]; omega
    | succ i =>
      cases j with
      | zero => rw [dd_left]; simp [ld_nil2]; omega
      | succ j =>
        rw [dd_step, take_snoc 0 (by omega : i < a.length), take_snoc 0 (by omega : j < b.length)]
        simp only [List.reverse_append, List.reverse_cons, List.reverse_nil, List.nil_append, List.singleton_append]
        rw [ld_cons]
        have e1 := ih i (j + 1) (by omega) (by omega) (by omega)
        have e2 := ih (i + 1) j (by omega) (by omega) (by omega)
        rw [take_snoc 0 (by omega : j < b.length)] at e1
        rw [take_snoc 0 (by omega : i < a.length)] at e2
        simp only [List.reverse_append, List.reverse_cons, List.reverse_nil, List.nil_append, List.singleton_append] at e1 e2
        rw [ih i j (by omega) (by omega) (by omega), e1, e2, Nat.min_right_comm]
theorem dd_all (a b : List Int) : dd a b a.length b.length = ld a b := by
  rw [dd_ld a b _ _ _ (Nat.le_refl _) (Nat.le_refl _) (Nat.le_refl _), List.take_length, List.take_length, ld_rev]

/-! ### the table -/
abbrev NM := List (Bool × List Int)
abbrev nd : Bool × List Int := (false, [])
def rowR (a b : List Int) (k : Nat) : List Int := (List.range (b.length + 1)).map fun j => ((ld (a.drop k) (b.drop j) : Nat) : Int)
theorem rowR_len (a b : List Int) (k : Nat) : (rowR a b k).length = b.length + 1 := by simp [rowR]
theorem rowR_get {a b : List Int} {k j : Nat} (h : j ≤ b.length) : (rowR a b k).getD j 0 = ((ld (a.drop k) (b.drop j) : Nat) : Int) := by
  simp [rowR, List.getD_eq_getElem?_getD, List.getElem?_map, show j < b.length + 1 by omega]
theorem nlGet_some {M : NM} {i j : Nat} (hi : i < M.length) (hj : j < (M.getD i nd).2.length) : nlGet M (i : Int) (j : Int) = some ((M.getD i nd).2.getD j 0) := by
  unfold nlGet
  rw [ix_get nd hi, Option.bind_some, ix_get 0 hj]
theorem nlPut_some {M : NM} {i j : Nat} {r : List Int} {v : Int} (hi : i < M.length) (hr : M.getD i nd = (true, r)) (hj : j < r.length) : nlPut M (i : Int) (j : Int) v = some (M.set i (true, r.set j v)) := by
  unfold nlPut
  rw [ix_get nd hi, Option.bind_some, hr]
  simp only [if_true]
  rw [setI_some (by omega) (by omega)]
  simp
theorem drop_cons {a : List Int} {i : Nat} (h : i < a.length) : a.drop i = a.getD i 0 :: a.drop (i + 1) := by
  rw [List.drop_eq_getElem_cons h]
  simp [h]

theorem table_L2 {n : Nat} {a b : List Int} {i : Nat} {M0 : NM} {r0 : List Int} (ha : a.length ≤ 1000000000) (hb : b.length ≤ 1000000000) (hi : i ≤ a.length) (hM : M0.length = a.length + 1) (hr : M0.getD i nd = (true, r0)) (hr0 : r0.length = b.length + 1)
    (hnext : i < a.length → M0.getD (i + 1) nd = (true, rowR a b (i + 1))) (hn : b.length + 1 < n) :
    ∃ t, iter n (fun s => m_ref11_table_L2 n a b (i : Int) s.1 s.2) ((b.length : Int), M0) = some t ∧ t.length = a.length + 1 ∧ t.getD i nd = (true, rowR a b i) ∧ ∀ q, q ≠ i → t.getD q nd = M0.getD q nd := by
  refine iter_inv (σ := Int × NM) (I := fun k s => s.1 = (k : Int) - 1 ∧ k ≤ b.length + 1 ∧ s.2.length = a.length + 1 ∧ (∃ r, s.2.getD i nd = (true, r) ∧ r.length = b.length + 1 ∧ ∀ x, k ≤ x → x ≤ b.length → r.getD x 0 = ((ld (a.drop i) (b.drop x) : Nat) : Int)) ∧ ∀ q, q ≠ i → s.2.getD q nd = M0.getD q nd)
    (Q := fun t : NM => t.length = a.length + 1 ∧ t.getD i nd = (true, rowR a b i) ∧ ∀ q, q ≠ i → t.getD q nd = M0.getD q nd) ?_ (b.length + 1) n _ ⟨by simp, by omega, hM, ⟨r0, hr, hr0, fun x h1 h2 => by omega⟩, fun _ _ => rfl⟩ hn
  rintro k ⟨c, M⟩ ⟨h1, h2, h3, ⟨r, h4, h5, h6⟩, h7⟩
  dsimp only at h1 h3 h4 h7
  subst h1
  simp only [m_ref11_table_L2]
  by_cases hk : k = 0
  · right
    subst hk
    refine ⟨M, by rw [if_neg (by simp)], h3, ?_, h7⟩
    rw [h4]
    congr 1
    refine List.ext_getElem (by rw [h5, rowR_len]) (fun x e1 e2 => ?_)
    have hx : x ≤ b.length := by omega
    have := h6 x (Nat.zero_le _) hx
    rw [← rowR_get (a := a) (k := i) hx] at this
    simpa [List.getD_eq_getElem?_getD, e1, e2] using this
  · left
    obtain ⟨j, rfl⟩ : ∃ j, k = j + 1 := ⟨k - 1, by omega⟩
    have e0 : ((j + 1 : Nat) : Int) - 1 = (j : Int) := by omega
    have hj : j ≤ b.length := by omega
    have hMi : i < M.length := by omega
    have hrj : j < (M.getD i nd).2.length := by rw [h4]; simp only; omega
    -- what is put in
    have put : ∀ v : Int, v = ((ld (a.drop i) (b.drop j) : Nat) : Int) → ∃ s', (nlPut M (i : Int) (j : Int) v).bind (fun t => some (Sum.inl (IntKind.i64.wrap ((j : Int) - 1), t) : (Int × NM) ⊕ NM)) = some (.inl s') ∧ s'.1 = (j : Int) - 1 ∧ s'.2.length = a.length + 1 ∧ (∃ r, s'.2.getD i nd = (true, r) ∧ r.length = b.length + 1 ∧ ∀ x, j ≤ x → x ≤ b.length → r.getD x 0 = ((ld (a.drop i) (b.drop x) : Nat) : Int)) ∧ ∀ q, q ≠ i → s'.2.getD q nd = M0.getD q nd := by
      rintro v rfl
      rw [nlPut_some hMi h4 (by omega), Option.bind_some]
      refine ⟨_, rfl, by simp only; rw [w64 (by omega) (by omega)], by simpa using h3, ⟨r.set j ((ld (a.drop i) (b.drop j) : Nat) : Int), ?_, by simpa using h5, fun x hx hx2 => ?_⟩, fun q hq => ?_⟩
      · simp only; rw [getD_set _ _ _ _ _ hMi, if_pos rfl]
      · rw [getD_set _ _ _ _ _ (by omega)]
        split
        · rename_i e; rw [e]
        · exact h6 x (by omega) hx2
      · simp only; rw [getD_set _ _ _ _ _ hMi, if_neg (Ne.symm hq)]; exact h7 q hq
    have fin : ∀ v : Int, v = ((ld (a.drop i) (b.drop j) : Nat) : Int) → ∃ s' k', (nlPut M (i : Int) (j : Int) v).bind (fun t => some (Sum.inl (IntKind.i64.wrap ((j : Int) - 1), t) : (Int × NM) ⊕ NM)) = some (.inl s') ∧ k' < j + 1 ∧ s'.1 = (k' : Int) - 1 ∧ k' ≤ b.length + 1 ∧ s'.2.length = a.length + 1 ∧ (∃ r, s'.2.getD i nd = (true, r) ∧ r.length = b.length + 1 ∧ ∀ x, k' ≤ x → x ≤ b.length → r.getD x 0 = ((ld (a.drop i) (b.drop x) : Nat) : Int)) ∧ ∀ q, q ≠ i → s'.2.getD q nd = M0.getD q nd := by
      intro v hv
      obtain ⟨s', q1, q2, q3, q4, q5⟩ := put v hv
      exact ⟨s', j, q1, by omega, q2, by omega, q3, q4, q5⟩
    have wb := ld_le (a.drop (i + 1)) (b.drop (j + 1))
    rw [e0, if_pos (by simp), ix_get nd hMi]
    simp only [Option.bind_some, nlGet_some hMi hrj]
    by_cases c1 : i = a.length
    · subst c1
      rw [if_pos (by simp)]
      simp only [Option.bind_assoc, Option.bind_some]
      refine fin _ ?_
      rw [List.drop_length, ld_nil, List.length_drop, w64 (by omega) (by omega)]; omega
    · rw [if_neg (by simp; omega)]
      have hia : i < a.length := by omega
      by_cases c2 : j = b.length
      · subst c2
        rw [if_pos (by simp)]
        simp only [Option.bind_assoc, Option.bind_some]
        refine fin _ ?_
        rw [List.drop_length, ld_nil2, List.length_drop, w64 (by omega) (by omega)]; omega
      · rw [if_neg (by simp; omega)]
        have hjb : j < b.length := by omega
        have w1 : IntKind.i64.wrap ((i : Int) + 1) = ((i + 1 : Nat) : Int) := by rw [w64 (by omega) (by omega)]; omega
        have w2 : IntKind.i64.wrap ((j : Int) + 1) = ((j + 1 : Nat) : Int) := by rw [w64 (by omega) (by omega)]; omega
        have hnx := hnext hia
        rw [← h7 (i + 1) (by omega)] at hnx
        have hM1 : i + 1 < M.length := by omega
        have g1 : nlGet M ((i + 1 : Nat) : Int) ((j + 1 : Nat) : Int) = some ((ld (a.drop (i + 1)) (b.drop (j + 1)) : Nat) : Int) := by
          rw [nlGet_some hM1 (by rw [hnx]; simp only [rowR_len]; omega), hnx]
          simp only; rw [rowR_get (by omega)]
        have g2 : nlGet M ((i + 1 : Nat) : Int) (j : Int) = some ((ld (a.drop (i + 1)) (b.drop j) : Nat) : Int) := by
          rw [nlGet_some hM1 (by rw [hnx]; simp only [rowR_len]; omega), hnx]
          simp only; rw [rowR_get (by omega)]
        have g3 : nlGet M (i : Int) ((j + 1 : Nat) : Int) = some ((ld (a.drop i) (b.drop (j + 1)) : Nat) : Int) := by
          rw [nlGet_some hMi (by rw [h4]; simp only; omega), h4]
          simp only; rw [h6 (j + 1) (by omega) (by omega)]
        rw [ix_get 0 hia, Option.bind_some, ix_get 0 hjb, Option.bind_some, w1, w2, ix_get nd hM1]
        simp only [Option.bind_some, g1, g2, g3]
        have hl : ld (a.drop i) (b.drop j) = if a.getD i 0 = b.getD j 0 then ld (a.drop (i + 1)) (b.drop (j + 1)) else 1 + min (min (ld (a.drop (i + 1)) (b.drop (j + 1))) (ld (a.drop (i + 1)) (b.drop j))) (ld (a.drop i) (b.drop (j + 1))) := by
          rw [drop_cons hia, drop_cons hjb, ld_cons]
        by_cases c3 : a.getD i 0 = b.getD j 0
        · rw [if_pos (by simp only [c3, decide_true])]
          simp only [Option.bind_assoc, Option.bind_some]
          refine fin _ ?_
          rw [hl, if_pos c3]
        · rw [if_neg (by simp only [c3, decide_false]; decide)]
          simp only [Option.bind_assoc, Option.bind_some]
          refine fin _ ?_
          rw [hl, if_neg c3]
          simp only [List.length_drop] at wb
          rw [w64 (by omega) (by omega)]; omega

theorem table_ok {a b : List Int} (ha : a.length ≤ 1000000000) (hb : b.length ≤ 1000000000) : ∃ T, m_ref11_table FU a b = some T ∧ T.length = a.length + 1 ∧ T.getD 0 [] = rowR a b 0 := by
  unfold m_ref11_table
  have e1 : IntKind.i64.wrap ((a.length : Int) + 1) = ((a.length + 1 : Nat) : Int) := by rw [w64 (by omega) (by omega)]; omega
  have e2 : IntKind.i64.wrap ((b.length : Int) + 1) = ((b.length + 1 : Nat) : Int) := by rw [w64 (by omega) (by omega)]; omega
  rw [e1, mkL_some (by omega) (by omega) (by omega), Option.bind_some]
  unfold Ab.toNl
  rw [if_neg (by simp), Option.bind_some]
  obtain ⟨t, h1, h2, h3⟩ := iter_inv (σ := Int × NM) (f := fun s => m_ref11_table_L1 FU a b s.1 s.2) (I := fun k s => s.1 = (k : Int) - 1 ∧ k ≤ a.length + 1 ∧ s.2.length = a.length + 1 ∧ ∀ q, k ≤ q → q ≤ a.length → s.2.getD q nd = (true, rowR a b q))
    (Q := fun t : NM => t.length = a.length + 1 ∧ t.getD 0 nd = (true, rowR a b 0)) (by
      rintro k ⟨c, M⟩ ⟨h1, h2, h3, h4⟩
      dsimp only at h1 h3 h4
      subst h1
      simp only [m_ref11_table_L1]
      by_cases hk : k = 0
      · right
        subst hk
        exact ⟨M, by rw [if_neg (by simp)], h3, h4 0 (Nat.le_refl _) (Nat.zero_le _)⟩
      · left
        obtain ⟨i, rfl⟩ : ∃ i, k = i + 1 := ⟨k - 1, by omega⟩
        have e0 : ((i + 1 : Nat) : Int) - 1 = (i : Int) := by omega
        have hMi : i < M.length := by omega
        rw [e0, if_pos (by simp), e2, mkL_some (by omega) (by omega) (by omega), Option.bind_some, ix_get nd hMi, Option.bind_some]
        unfold nlRow
        rw [if_pos ⟨by omega, by simpa using hMi⟩, Option.bind_some]
        simp only [Int.toNat_natCast]
        obtain ⟨t, q1, q2, q3, q4⟩ := table_L2 (n := FU) (a := a) (b := b) (i := i) (M0 := M.set i (true, List.replicate (b.length + 1) 0)) (r0 := List.replicate (b.length + 1) 0) ha hb (by omega) (by simpa using h3) (by rw [getD_set _ _ _ _ _ hMi, if_pos rfl]) (by simp)
          (fun hia => by rw [getD_set _ _ _ _ _ hMi, if_neg (by omega)]; exact h4 (i + 1) (by omega) (by omega)) (by simp only [FU]; omega)
        rw [q1, Option.bind_some]
        refine ⟨_, i, rfl, by omega, by simp only; rw [w64 (by omega) (by omega)], by omega, q2, fun q hq hq2 => ?_⟩
        simp only
        by_cases hqi : q = i
        · subst hqi; exact q3
        · rw [q4 q hqi, getD_set _ _ _ _ _ hMi, if_neg (by omega)]
          exact h4 q (by omega) hq2) (a.length + 1) FU ((a.length : Int), (List.replicate (((a.length + 1 : Nat) : Int).toNat) ([] : List Int)).map fun r => (false, r)) ⟨by simp, by omega, by simp, fun q h1 h2 => by omega⟩ (by simp only [FU]; omega)
  rw [h1, Option.bind_some]
  refine ⟨_, rfl, by simpa using h2, ?_⟩
  have : (t.map Prod.snd).getD 0 [] = (t.getD 0 nd).2 := by
    simp only [List.getD_eq_getElem?_getD, List.getElem?_map]
    cases t[0]? <;> rfl
  rw [this, h3]
theorem refdist_ok {a b : List Int} (ha : a.length ≤ 1000000000) (hb : b.length ≤ 1000000000) : m_ref11_Distance FU a b = some ((ld a b : Nat) : Int) := by
  obtain ⟨T, h1, h2, h3⟩ := table_ok ha hb
  unfold m_ref11_Distance
  have e : ix T (0 : Int) = some (T.getD 0 []) := ix_get (i := 0) [] (by omega)
  rw [h1, Option.bind_some, e, Option.bind_some, h3]
  have e2 : ix (rowR a b 0) (0 : Int) = some ((rowR a b 0).getD 0 0) := ix_get (i := 0) 0 (by rw [rowR_len]; omega)
  rw [e2, Option.bind_some, rowR_get (Nat.zero_le _)]
  simp
theorem refchars_ok {s : List UInt8} (h : s.length ≤ 1000000000) : m_ref11_Chars FU s = some (chs s) := (chars_ok h).1
theorem reftext_ok {a b : List UInt8} (ha : a.length ≤ 1000000000) (hb : b.length ≤ 1000000000) : ∃ v : Int, m_ref11_Text FU a b = some v ∧ decide (v ≤ 2) = nr a b := by
  have l1 := (chars_ok ha).2
  have l2 := (chars_ok hb).2
  unfold m_ref11_Text nr
  rw [refchars_ok ha, Option.bind_some, refchars_ok hb, Option.bind_some, refdist_ok (by omega) (by omega), Option.bind_some]
  refine ⟨_, rfl, ?_⟩
  rw [dd_all, decide_eq_decide]; omega
end Go.Proofs.YtgcmhhcopeiomaaGreat.Ab
