/- What the reference says of two records, in plain Lean. Conditions: none. -/
import Derived.Test.YtgcmhhcopeiomaaGreatWb
namespace Go.Proofs.YtgcmhhcopeiomaaGreat.Ab
open Go

theorem ain_ok {l : List (List UInt8)} {x : List UInt8} (hl : l.length ≤ 1000000000) : m_ref31_in FU l x = some (l.any fun y => decide (y = x)) := by
  unfold m_ref31_in
  rw [iter_any l.length FU (fun i => decide (l.getD i [] = x)) (.inl true) (.inr ()) (fun j hj => by
      unfold m_ref31_in_L1
      rw [if_pos (by simp; omega), ix_get [] hj, Option.bind_some, wadd1 hj (by simp only [ML]; omega)]
      cases decide (l.getD j [] = x) <;> rfl) (by unfold m_ref31_in_L1; simp) (by simp only [FU]; omega), anyN_getD l [] (fun y => decide (y = x))]
  cases l.any fun y => decide (y = x) <;> rfl
theorem any_mem {l : List (List UInt8)} {x : List UInt8} : (l.any fun y => decide (y = x)) = decide (x ∈ l) := by
  rw [Bool.eq_iff_iff, List.any_eq_true]; simp

/-- Each word once, of the first so many. -/
def firsts (a : List (List UInt8)) : Nat → List (List UInt8)
  | 0 => []
  | i + 1 => if a.getD i [] ∈ a.take i then firsts a i else firsts a i ++ [a.getD i []]
theorem firsts_mem {a : List (List UInt8)} : ∀ {i : Nat}, i ≤ a.length → ∀ x, x ∈ firsts a i ↔ x ∈ a.take i
  | 0, _, x => by simp [firsts]
  | i + 1, h, x => by
    have ih := firsts_mem (a := a) (i := i) (by omega) x
    rw [take_snoc [] (by omega : i < a.length)]
    simp only [firsts]
    split
    · rename_i hm
      rw [ih, List.mem_append]
      constructor
      · exact .inl
      · rintro (h1 | h1)
        · exact h1
        · rw [List.mem_singleton.1 h1]; exact hm
    · rw [List.mem_append, List.mem_append, ih]
theorem firsts_nodup {a : List (List UInt8)} : ∀ {i : Nat}, i ≤ a.length → (firsts a i).Nodup
  | 0, _ => by simp [firsts]
  | i + 1, h => by
    have ih := firsts_nodup (a := a) (i := i) (by omega)
    simp only [firsts]
    split
    · exact ih
    · rename_i hm
      rw [List.nodup_append]
      refine ⟨ih, by simp, fun x hx y hy e => ?_⟩
      rw [List.mem_singleton.1 hy] at e
      rw [firsts_mem (by omega)] at hx
      exact hm (e ▸ hx)
theorem firsts_len {a : List (List UInt8)} : ∀ {i : Nat}, (firsts a i).length ≤ i
  | 0 => by simp [firsts]
  | i + 1 => by
    have := firsts_len (a := a) (i := i)
    simp only [firsts]
    split <;> simp <;> omega
abbrev fsts (a : List (List UInt8)) : List (List UInt8) := firsts a a.length
theorem fsts_mem {a : List (List UInt8)} {x : List UInt8} : x ∈ fsts a ↔ x ∈ a := by
  rw [firsts_mem (Nat.le_refl _), List.take_length]
def cmn (a b : List (List UInt8)) : Nat := (fsts a).countP (fun x => decide (x ∈ b))
theorem common_ok {a b : List (List UInt8)} (ha : a.length ≤ 1000000000) (hb : b.length ≤ 1000000000) : m_ref31_common FU a b = some ((cmn a b : Nat) : Int) := by
  unfold m_ref31_common
  obtain ⟨t, h1, h2⟩ := iter_inv (σ := Int × Int) (f := fun s => m_ref31_common_L1 FU a b s.1 s.2) (I := fun k s => ∃ j : Nat, s.2 = j ∧ j + k = a.length ∧ s.1 = (((firsts a j).countP (fun x => decide (x ∈ b)) : Nat) : Int))
    (Q := fun t : Int => t = ((cmn a b : Nat) : Int)) (by
      rintro k ⟨v, c⟩ ⟨j, h1, h2, h3⟩
      dsimp only at h1 h3
      subst h1 h3
      simp only [m_ref31_common_L1]
      by_cases hk : k = 0
      · right
        obtain rfl : j = a.length := by omega
        exact ⟨((cmn a b : Nat) : Int), by rw [if_neg (by simp)]; rfl, rfl⟩
      · left
        have hj : j < a.length := by omega
        have hc : (firsts a j).countP (fun x => decide (x ∈ b)) ≤ j := Nat.le_trans List.countP_le_length firsts_len
        rw [if_pos (by simp; omega), ix_get [] hj]
        simp only [Option.bind_some]
        rw [ain_ok hb, any_mem]
        simp only [Option.bind_some]
        have hs : slc a 0 (j : Int) = some (a.take j) := by rw [slc_some (by omega) (by omega) (by omega)]; simp
        rw [hs, wadd1 hj (by simp only [ML]; omega)]
        by_cases hm : a.getD j [] ∈ b
        · simp only [hm, decide_true, if_true, Option.bind_some]
          rw [ain_ok (by rw [List.length_take]; omega), any_mem]
          simp only [Option.bind_some]
          by_cases hf : a.getD j [] ∈ a.take j
          · simp only [hf, decide_true, Bool.not_true, Bool.and_false, Bool.false_eq_true, if_false, Option.bind_some]
            exact ⟨_, k - 1, rfl, by omega, j + 1, rfl, by omega, by simp only [firsts, if_pos hf]⟩
          · simp only [hf, decide_false, Bool.not_false, Bool.and_true, if_true, Option.bind_some]
            refine ⟨_, k - 1, rfl, by omega, j + 1, rfl, by omega, ?_⟩
            simp only [firsts, if_neg hf, List.countP_append, List.countP_singleton, hm, decide_true, if_true]
            rw [w64 (by omega) (by omega)]; omega
        · simp only [hm, decide_false, Bool.false_and, Bool.false_eq_true, if_false, Option.bind_some]
          refine ⟨_, k - 1, rfl, by omega, j + 1, rfl, by omega, ?_⟩
          simp only [firsts]
          split
          · rfl
          · simp only [List.countP_append, List.countP_singleton, hm, decide_false, Bool.false_eq_true, if_false, Nat.add_zero]) a.length FU ((0 : Int), (0 : Int)) ⟨0, rfl, by omega, by simp [firsts]⟩ (by simp only [FU]; omega)
  rw [h1, Option.bind_some, h2]
theorem cmn_self (a : List (List UInt8)) : cmn a a = (fsts a).length := by
  unfold cmn
  rw [List.countP_eq_length]
  intro x hx
  simp [fsts_mem.1 hx]
theorem cmn_le (a b : List (List UInt8)) : cmn a b ≤ a.length := Nat.le_trans List.countP_le_length firsts_len
theorem cmn_com (a b : List (List UInt8)) : decide ((0 : Int) < ((cmn a b : Nat) : Int)) = com a b := by
  rw [Bool.eq_iff_iff, com_iff, decide_eq_true_eq]
  unfold cmn
  rw [show ((0 : Int) < ((List.countP (fun x => decide (x ∈ b)) (fsts a) : Nat) : Int)) ↔ 0 < List.countP (fun x => decide (x ∈ b)) (fsts a) by omega, List.countP_pos_iff]
  constructor
  · rintro ⟨x, hx, h⟩; exact ⟨x, fsts_mem.1 hx, by simpa using h⟩
  · rintro ⟨x, hx, h⟩; exact ⟨x, fsts_mem.2 hx, by simpa using h⟩
theorem cmn_sym (a b : List (List UInt8)) : cmn a b = cmn b a := by
  unfold cmn
  rw [List.countP_eq_length_filter, List.countP_eq_length_filter]
  exact (perm_of_same ((firsts_nodup (Nat.le_refl _)).filter _) ((firsts_nodup (Nat.le_refl _)).filter _) (fun x => by
    simp only [List.mem_filter, fsts_mem, decide_eq_true_eq]; exact And.comm)).length_eq

/-! ### close words -/
theorem says_keys {M : WM} {a b : List (List UInt8)} (h : says M (vv a b)) (k : List UInt8) : k ∈ M.map (·.1) ↔ k ∈ a ∨ k ∈ b := by
  have h1 := mget_none (m := M) (k := k)
  rw [h.2] at h1
  unfold vv bt at h1
  by_cases ha : k ∈ a <;> by_cases hb : k ∈ b <;> simp [ha, hb] at h1 ⊢ <;> simpa using h1
theorem says_size {M : WM} {a b : List (List UInt8)} (h : says M (vv a b)) : M.length + cmn a b = (fsts a).length + (fsts b).length := by
  have p := perm_of_same (l := M.map (·.1)) (m := fsts a ++ (fsts b).filter (fun x => decide (x ∉ a))) h.1 (by
    rw [List.nodup_append]
    refine ⟨firsts_nodup (Nat.le_refl _), (firsts_nodup (Nat.le_refl _)).filter _, fun x hx y hy e => ?_⟩
    subst e
    simp only [List.mem_filter, decide_eq_true_eq] at hy
    exact hy.2 (fsts_mem.1 hx)) (fun x => by
    rw [says_keys h, List.mem_append, List.mem_filter, fsts_mem, fsts_mem, decide_eq_true_eq]
    by_cases hx : x ∈ a <;> simp [hx])
  have := p.length_eq
  rw [List.length_map, List.length_append, ← List.countP_eq_length_filter] at this
  rw [this, cmn_sym]
  unfold cmn
  have h2 := List.length_eq_countP_add_countP (fun x => decide (x ∈ a)) (l := fsts b)
  have e : List.countP (fun x => decide (x ∉ a)) (fsts b) = List.countP (fun x => decide ¬(decide (x ∈ a)) = true) (fsts b) := by
    congr 1; funext x; simp
  omega
theorem says_both {M : WM} {a b : List (List UInt8)} (h : says M (vv a b)) : M.countP (fun e => decide (e.2 = 3)) = cmn a b := by
  rw [says_count h]
  unfold cmn
  rw [List.countP_eq_length_filter, List.countP_eq_length_filter]
  refine (perm_of_same (h.1.filter _) ((firsts_nodup (Nat.le_refl _)).filter _) (fun x => ?_)).length_eq
  simp only [List.mem_filter, fsts_mem, decide_eq_true_eq, says_keys h]
  unfold vv bt
  by_cases ha : x ∈ a <;> by_cases hb : x ∈ b <;> simp [ha, hb]
theorem cw_ref {a b : List (List UInt8)} (ha : a.length ≤ 1000) (hb : b.length ≤ 1000) (h0 : 0 < a.length) :
    decide ((IntKind.i64.wrap ((3 : Int) * (IntKind.i64.wrap ((IntKind.i64.wrap (((cmn a a : Nat) : Int) + ((cmn b b : Nat) : Int))) - ((cmn a b : Nat) : Int))))) ≤ (IntKind.i64.wrap ((4 : Int) * ((cmn a b : Nat) : Int)))) = cw a b := by
  obtain ⟨M, h1, h2⟩ := closeWords_ok (a := a) (b := b) (by omega) (by omega)
  unfold cw
  rw [h2, says_both h1]
  have e1 := says_size h1
  have l1 := cmn_le a b
  have l2 := cmn_le a a
  have l3 := cmn_le b b
  rw [cmn_self] at l2 l3 ⊢
  rw [cmn_self]
  have hpos : 0 < M.length := by
    rcases Nat.eq_zero_or_pos M.length with h | h
    · have hM : M = [] := List.length_eq_zero_iff.1 h
      have := (says_keys h1 (a.getD 0 [])).2 (.inl (by simp [h0]))
      rw [hM] at this; cases this
    · exact h
  rw [w64 (x := ((fsts a).length : Int) + ((fsts b).length : Int)) (by omega) (by omega), w64 (x := ((fsts a).length : Int) + ((fsts b).length : Int) - ((cmn a b : Nat) : Int)) (by omega) (by omega), w64 (x := 3 * _) (by omega) (by omega), w64 (by omega) (by omega), w64 (by omega) (by omega)]
  simp only [Option.getD_some]
  rw [show decide ((0 : Int) < (M.length : Int)) = true from decide_eq_true (by omega), Bool.true_and, decide_eq_decide]
  omega

/-! ### the features -/
theorem zero_or {α β : Type} {a : List α} {b : List β} : ((decide ((a.length : Int) = (0 : Int))) || (decide ((b.length : Int) = (0 : Int)))) = !decide (0 < a.length ∧ 0 < b.length) := by
  rw [Bool.eq_iff_iff]; simp only [Bool.or_eq_true, decide_eq_true_eq, Bool.not_eq_true', decide_eq_false_iff_not]; omega
theorem sametexts_ok {a b : List (List UInt8)} (ha : a.length ≤ 1000000000) : m_ref29_SameTexts FU a b = some (decide (a = b)) := by
  unfold m_ref29_SameTexts
  by_cases hl : a.length = b.length
  · rw [if_neg (by simp [hl]), iter_any a.length FU (fun i => !decide (a.getD i [] = b.getD i [])) (.inl false) (.inr ()) (fun j hj => by
      unfold m_ref29_SameTexts_L1
      rw [if_pos (by simp; omega), ix_get [] hj, Option.bind_some, ix_get [] (by omega), Option.bind_some, wadd1 hj (by simp only [ML]; omega)]
      cases decide (a.getD j [] = b.getD j []) <;> rfl) (by unfold m_ref29_SameTexts_L1; simp) (by simp only [FU]; omega)]
    by_cases h : anyN a.length (fun i => !decide (a.getD i [] = b.getD i [])) = true
    · rw [if_pos h]
      obtain ⟨i, hi, h2⟩ := anyN_t.1 h
      have : a ≠ b := fun e => by subst e; simp at h2
      simp [this]
    · rw [if_neg h]
      have h' := anyN_f.1 (by simpa using h)
      have : a = b := getD_ext [] hl (fun i hi => by have := h' i hi; simpa using this)
      simp [this]
  · rw [if_pos (by simp; omega)]
    have : a ≠ b := fun e => hl (by rw [e])
    simp [this]
theorem join_snoc (l : List (List UInt8)) (x : List UInt8) (h : l ≠ []) : Lib.join (l ++ [x]) [32] = Lib.join l [32] ++ [32] ++ x := by
  cases l with
  | nil => exact absurd rfl h
  | cons y r =>
    rw [List.cons_append, Lib.join_cons, Lib.join_cons]
    simp [Lib.joinTail, List.append_assoc]
theorem appS_some {l l' : List UInt8} (h : l.length + l'.length ≤ 9223372036854775807) : appS l l' = some (l ++ l') := by rw [appS, if_pos h]
theorem joined_ok {l : List (List UInt8)} (h : l.length ≤ 200) (hw : ∀ w ∈ l, w.length ≤ 400) : m_ref31_joined FU l = some (jn l) := by
  unfold m_ref31_joined
  have small : ∀ j, (jn (l.take j)).length ≤ 100000 := fun j => jn_len (by rw [List.length_take]; omega) (fun w hw' => hw w (List.mem_of_mem_take hw'))
  obtain ⟨t, h1, h2⟩ := iter_inv (σ := List UInt8 × Int) (f := fun s => m_ref31_joined_L1 FU l s.1 s.2) (I := fun k s => ∃ j : Nat, s.2 = j ∧ j + k = l.length ∧ s.1 = jn (l.take j)) (Q := fun t => t = jn l) (by
      rintro k ⟨v, c⟩ ⟨j, h1, h2, h3⟩
      dsimp only at h1 h3
      subst h1 h3
      simp only [m_ref31_joined_L1]
      by_cases hk : k = 0
      · right
        obtain rfl : j = l.length := by omega
        exact ⟨_, by rw [if_neg (by simp)], by rw [List.take_length]⟩
      · left
        have hj : j < l.length := by omega
        have s1 := small j
        have s2 : (l.getD j []).length ≤ 400 := hw _ (by simp [hj])
        rw [if_pos (by simp; omega), ix_get [] hj, wadd1 hj (by simp only [ML]; omega)]
        simp only [Option.bind_some]
        by_cases h0 : j = 0
        · subst h0
          rw [if_neg (by simp), Option.bind_some, appS_some (l := jn (l.take 0)) (l' := l.getD 0 []) (by omega), Option.bind_some]
          refine ⟨_, k - 1, rfl, by omega, 1, rfl, by omega, ?_⟩
          rw [take_snoc [] hj]
          simp [jn, Lib.join_nil, Lib.join_one]
        · rw [if_pos (by simp only [decide_eq_true_eq]; omega), appS_some (l := jn (l.take j)) (l' := [32]) (by simp only [List.length_cons, List.length_nil]; omega), Option.bind_some, Option.bind_some, appS_some (l := jn (l.take j) ++ [32]) (l' := l.getD j []) (by simp only [List.length_append, List.length_cons, List.length_nil]; omega), Option.bind_some]
          refine ⟨_, k - 1, rfl, by omega, j + 1, rfl, by omega, ?_⟩
          rw [take_snoc [] hj]
          unfold jn
          rw [join_snoc _ _ (by intro e; have := congrArg List.length e; rw [List.length_take, List.length_nil] at this; omega)]) l.length FU (([] : List UInt8), (0 : Int)) ⟨0, rfl, by omega, rfl⟩ (by simp only [FU]; omega)
  rw [h1, Option.bind_some, h2]
theorem title_ok {a b : List (List UInt8)} (ha : a.length ≤ 200) (hb : b.length ≤ 200) (wa : ∀ w ∈ a, w.length ≤ 400) (wb : ∀ w ∈ b, w.length ≤ 400) : m_ref31_title FU a b = some (cT a b) := by
  unfold m_ref31_title cT
  rw [common_ok (by omega) (by omega), Option.bind_some, common_ok (by omega) (by omega), Option.bind_some, common_ok (by omega) (by omega), Option.bind_some]
  by_cases h0 : 0 < a.length ∧ 0 < b.length
  · rw [zero_or, if_neg (by simp [h0.1, h0.2]), if_pos h0, sametexts_ok (by omega), Option.bind_some, cw_ref (by omega) (by omega) h0.1]
    by_cases he : a = b
    · simp [he, ver]
    · simp only [he, decide_false, Bool.false_eq_true, if_false]
      cases hc : cw a b with
      | true => simp [ver]
      | false =>
        have j1 := jn_len ha wa
        have j2 := jn_len hb wb
        obtain ⟨v, h1, h2⟩ := reftext_ok (a := jn a) (b := jn b) (by omega) (by omega)
        simp only [Bool.not_false, if_true, Bool.false_or]
        rw [joined_ok ha wa, Option.bind_some, joined_ok hb wb, Option.bind_some, h1, Option.bind_some, h2]
        cases nr (jn a) (jn b) <;> rfl
  · rw [zero_or, if_pos (by simp only [decide_eq_false h0, Bool.not_false]), if_neg h0]
theorem author_ok {a b : List UInt8} (ha : a.length ≤ 1000000000) (hb : b.length ≤ 1000000000) : m_ref31_author FU a b = some (cA a b) := by
  unfold m_ref31_author cA
  by_cases h0 : a ≠ [] ∧ b ≠ []
  · rw [if_neg (by simp [h0.1, h0.2]), if_pos h0]
    by_cases he : a = b
    · simp [he, ver]
    · simp only [he, decide_false, Bool.false_eq_true, if_false]
      obtain ⟨v, h1, h2⟩ := reftext_ok ha hb
      rw [h1, Option.bind_some, h2]
      cases nr a b <;> rfl
  · rw [if_pos (by
      by_cases h1 : a = []
      · simp [h1]
      · have : b = [] := Classical.byContradiction fun h2 => h0 ⟨h1, h2⟩
        simp [this]), if_neg h0]
theorem sets_ok {a b : List (List UInt8)} (ha : a.length ≤ 1000000000) (hb : b.length ≤ 1000000000) (w : Bool) (z : Int) :
    m_ref31_sets FU a b w z = some (if 0 < a.length ∧ 0 < b.length then (if (w && decide (a = b) || !w && com a b) = true then 1 else if com a b = true then z else 3) else 0) := by
  unfold m_ref31_sets
  rw [common_ok ha hb, sametexts_ok ha]
  simp only [Option.bind_some, cmn_com]
  by_cases h0 : 0 < a.length ∧ 0 < b.length
  · rw [zero_or, if_neg (by simp [h0.1, h0.2]), if_pos h0]
    cases w with
    | false => simp only [Bool.false_eq_true, if_false, Option.bind_some, Bool.false_and, Bool.not_false, Bool.and_self, if_true, Bool.false_or, Bool.true_and, cmn_com]
               cases com a b <;> rfl
    | true =>
      by_cases he : a = b
      · simp [he]
      · simp only [he, if_true, decide_false, Bool.and_false, Bool.not_false, Bool.not_true, Bool.false_eq_true, if_false, Option.bind_some, Bool.false_and, Bool.or_self]
        cases com a b <;> rfl
  · rw [zero_or, if_pos (by simp only [decide_eq_false h0, Bool.not_false]), if_neg h0]

/-! ### years -/
def nb1 (b : List Int) (x : Int) : Bool := b.any fun y => decide (x - y = 1) || decide (x - y = -1)
theorem years_L2 {a b : List Int} {i : Nat} {s0 : Int} (hi : i < a.length) (hb : b.length ≤ 1000000000) (ra : ∀ x ∈ a, 1000 ≤ x ∧ x ≤ 2999) (rb : ∀ x ∈ b, 1000 ≤ x ∧ x ≤ 2999) :
    iter FU (fun s => m_ref31_years_L2 FU a b (i : Int) s.1 s.2) (s0, (0 : Int)) = some (if a.getD i 0 ∈ b then .inl 1 else .inr (if nb1 b (a.getD i 0) = true then 2 else s0)) := by
  have hx := ra (a.getD i 0) (by simp [hi])
  obtain ⟨t, h1, h2⟩ := iter_inv (σ := Int × Int) (f := fun s => m_ref31_years_L2 FU a b (i : Int) s.1 s.2) (I := fun k s => ∃ j : Nat, s.2 = j ∧ j + k = b.length ∧ a.getD i 0 ∉ b.take j ∧ s.1 = if nb1 (b.take j) (a.getD i 0) = true then 2 else s0)
    (Q := fun t : Int ⊕ Int => t = if a.getD i 0 ∈ b then .inl 1 else .inr (if nb1 b (a.getD i 0) = true then 2 else s0)) (by
      rintro k ⟨v, c⟩ ⟨j, h1, h2, h3, h4⟩
      dsimp only at h1 h4
      subst h1 h4
      simp only [m_ref31_years_L2]
      by_cases hk : k = 0
      · right
        obtain rfl : j = b.length := by omega
        rw [List.take_length] at h3
        exact ⟨_, by rw [if_neg (by simp)], by rw [List.take_length, if_neg h3]⟩
      · have hj : j < b.length := by omega
        have hy := rb (b.getD j 0) (by simp [hj])
        rw [if_pos (by simp; omega), ix_get 0 hi, Option.bind_some, ix_get 0 hj, Option.bind_some, wadd1 hj (by simp only [ML]; omega), w64 (x := a.getD i 0 - b.getD j 0) (by omega) (by omega)]
        by_cases e : a.getD i 0 = b.getD j 0
        · right
          rw [if_pos (by simp only [decide_eq_true_eq]; omega)]
          exact ⟨_, rfl, by rw [if_pos (by rw [e]; simp [hj])]⟩
        · left
          rw [if_neg (by simp only [decide_eq_true_eq]; omega)]
          have hn : nb1 (b.take (j + 1)) (a.getD i 0) = (nb1 (b.take j) (a.getD i 0) || (decide (a.getD i 0 - b.getD j 0 = 1) || decide (a.getD i 0 - b.getD j 0 = -1))) := by
            unfold nb1
            rw [take_snoc 0 hj]; simp
          have hm : a.getD i 0 ∉ b.take (j + 1) := by
            rw [take_snoc 0 hj, List.mem_append, List.mem_singleton]
            rintro (h | h)
            · exact h3 h
            · exact e h
          by_cases d : (decide (a.getD i 0 - b.getD j 0 = 1) || decide (a.getD i 0 - b.getD j 0 = -1)) = true
          · rw [if_pos d]
            exact ⟨_, k - 1, rfl, by omega, j + 1, rfl, by omega, hm, by rw [hn, d]; simp⟩
          · rw [if_neg d]
            exact ⟨_, k - 1, rfl, by omega, j + 1, rfl, by omega, hm, by rw [hn, Bool.eq_false_iff.2 d]; simp⟩) b.length FU (s0, (0 : Int)) ⟨0, rfl, by omega, by simp, by simp [nb1]⟩ (by simp only [FU]; omega)
  rw [h1, h2]
theorem refy_ok {a b : List Int} (ha : a.length ≤ 1000000000) (hb : b.length ≤ 1000000000) (ra : ∀ x ∈ a, 1000 ≤ x ∧ x ≤ 2999) (rb : ∀ x ∈ b, 1000 ≤ x ∧ x ≤ 2999) : m_ref31_years FU a b = some (cY a b) := by
  unfold m_ref31_years cY
  by_cases h0 : 0 < a.length ∧ 0 < b.length
  · rw [zero_or, if_neg (by simp [h0.1, h0.2]), if_pos h0]
    obtain ⟨t, h1, h2⟩ := iter_inv (σ := Int × Int) (f := fun s => m_ref31_years_L1 FU a b s.1 s.2) (I := fun k s => ∃ j : Nat, s.2 = j ∧ j + k = a.length ∧ (∀ x ∈ a.take j, x ∉ b) ∧ s.1 = if (a.take j).any (nb1 b) = true then 2 else 3)
      (Q := fun t : Int ⊕ Int => (match t with | .inl u => u | .inr u => u) = ver (com a b) (nbr a b)) (by
        rintro k ⟨v, c⟩ ⟨j, h1, h2, h3, h4⟩
        dsimp only at h1 h4
        subst h1 h4
        simp only [m_ref31_years_L1]
        by_cases hk : k = 0
        · right
          obtain rfl : j = a.length := by omega
          rw [List.take_length] at h3
          refine ⟨_, by rw [if_neg (by simp)], ?_⟩
          have hc : com a b = false := by
            rw [Bool.eq_false_iff, ne_eq, com_iff]
            rintro ⟨x, h5, h6⟩; exact h3 x h5 h6
          have hn : a.any (nb1 b) = nbr a b := by
            rw [Bool.eq_iff_iff, nbr_iff ra, List.any_eq_true]
            simp only [nb1, List.any_eq_true, Bool.or_eq_true, decide_eq_true_eq]
            exact ⟨fun ⟨x, h5, y, h6, h7⟩ => ⟨x, h5, y, h6, by omega⟩, fun ⟨x, h5, y, h6, h7⟩ => ⟨x, h5, y, h6, by omega⟩⟩
          simp only [List.take_length]
          rw [hc, hn]
          cases nbr a b <;> rfl
        · have hj : j < a.length := by omega
          rw [if_pos (by simp; omega), years_L2 hj hb ra rb, Option.bind_some, wadd1 hj (by simp only [ML]; omega)]
          by_cases hm : a.getD j 0 ∈ b
          · right
            simp only [if_pos hm]
            refine ⟨_, rfl, ?_⟩
            have hc : com a b = true := com_iff.2 ⟨a.getD j 0, by simp [hj], hm⟩
            rw [hc]; rfl
          · left
            simp only [if_neg hm]
            refine ⟨_, k - 1, rfl, by omega, j + 1, rfl, by omega, fun x hx => ?_, ?_⟩
            · rw [take_snoc 0 hj, List.mem_append, List.mem_singleton] at hx
              rcases hx with hx | hx
              · exact h3 x hx
              · rw [hx]; exact hm
            · rw [take_snoc 0 hj, List.any_append]
              simp only [List.any_cons, List.any_nil, Bool.or_false]
              cases (a.take j).any (nb1 b) <;> cases nb1 b (a.getD j 0) <;> rfl) a.length FU ((3 : Int), (0 : Int)) ⟨0, rfl, by omega, by simp, by simp⟩ (by simp only [FU]; omega)
    rw [h1, Option.bind_some]
    cases t <;> simp only at h2 ⊢ <;> rw [h2]
  · rw [zero_or, if_pos (by simp only [decide_eq_false h0, Bool.not_false]), if_neg h0]

theorem refcmp_ok {f g : SFeatures} (hf : FV f) (hg : FV g) : m_ref31_compare FU f g = some (cmp f g) := by
  have h1 := hf.t; have h2 := hg.t; have h3 := hf.a; have h4 := hg.a; have h5 := hf.y; have h6 := hg.y; have h7 := hf.i; have h8 := hg.i; have h9 := hf.l; have h10 := hg.l; have h11 := hf.p; have h12 := hg.p; have h13 := hf.e; have h14 := hg.e
  unfold m_ref31_compare cmp
  rw [title_ok hf.t hg.t hf.tw hg.tw, Option.bind_some, author_ok (by omega) (by omega), Option.bind_some, refy_ok (by omega) (by omega) hf.yr hg.yr, Option.bind_some, sets_ok (by omega) (by omega), Option.bind_some, sets_ok (by omega) (by omega), Option.bind_some,
    sets_ok (by omega) (by omega), Option.bind_some, sets_ok (by omega) (by omega), Option.bind_some]
  have eS : ∀ a b : List (List UInt8), (if 0 < a.length ∧ 0 < b.length then (if (false && decide (a = b) || !false && com a b) = true then 1 else if com a b = true then 1 else 3) else 0 : Int) = cS a b := fun a b => by
    unfold cS; cases com a b <;> simp [ver]
  have eP : ∀ a b : List (List UInt8), (if 0 < a.length ∧ 0 < b.length then (if (true && decide (a = b) || !true && com a b) = true then 1 else if com a b = true then 2 else 3) else 0 : Int) = cP a b := fun a b => by
    unfold cP; cases decide (a = b) <;> cases com a b <;> simp [ver]
  have eE : ∀ a b : List (List UInt8), (if 0 < a.length ∧ 0 < b.length then (if (true && decide (a = b) || !true && com a b) = true then 1 else if com a b = true then 3 else 3) else 0 : Int) = cE a b := fun a b => by
    unfold cE; cases decide (a = b) <;> cases com a b <;> simp [ver]
  rw [eS, eS, eP, eE]
end Go.Proofs.YtgcmhhcopeiomaaGreat.Ab
