/- Plain laws, joined. Conditions: none. -/
import Derived.Test.YtkfffaoopcnaoaaTs
namespace Go.Proofs.Ytkfffaoopcnaoaa.Ab
section
/- The rules of a list of records, in the program. Conditions: none. -/
open Go
section
variable {n : Nat} {l : List SConstraint} {ids : List Int}
/-- The first of a list that is in the class of the i-th. -/
def fI (l : List SConstraint) (ids : List Int) (i : Nat) : Nat := ids.findIdx fun y => decide (root l y = root l (ids.getD i 0))
theorem getD_at {i : Nat} (h : i < ids.length) : ids.getD i 0 = ids[i] := by simp [h]
theorem fI_lt {i : Nat} (hi : i < ids.length) : fI l ids i < ids.length := by
  unfold fI
  exact List.findIdx_lt_length_of_exists ⟨ids[i], List.getElem_mem hi, by rw [getD_at hi]; simp⟩
theorem fI_root {i : Nat} (hi : i < ids.length) : root l (ids[fI l ids i]'(fI_lt hi)) = root l ids[i] := by
  have := List.findIdx_getElem (p := fun y => decide (root l y = root l (ids.getD i 0))) (xs := ids) (w := fI_lt (l := l) hi)
  exact (of_decide_eq_true this).trans (by rw [getD_at hi])
theorem fI_min {i t : Nat} (hi : i < ids.length) (ht : t < fI l ids i) : root l (ids[t]'(Nat.lt_trans ht (fI_lt hi))) ≠ root l ids[i] := fun e => by
  have := List.not_of_lt_findIdx (p := fun y => decide (root l y = root l (ids.getD i 0))) (xs := ids) (i := t) ht
  exact of_decide_eq_false this (e.trans (by rw [getD_at hi]))
theorem fI_le {i : Nat} (hi : i < ids.length) : fI l ids i ≤ i := by
  rcases Nat.lt_or_ge i (fI l ids i) with h | h
  · exact absurd rfl (fI_min hi h)
  · exact h
theorem fI_congr {i j : Nat} (hi : i < ids.length) (hj : j < ids.length) (h : root l ids[i] = root l ids[j]) : fI l ids i = fI l ids j := by
  unfold fI; rw [getD_at hi, getD_at hj, h]
def must1 (l : List SConstraint) (ids : List Int) (i : Nat) : List SConstraint := if fI l ids i < i then [⟨1, (fI l ids i : Int), (i : Int)⟩] else []
def must (l : List SConstraint) (ids : List Int) (j : Nat) : List SConstraint := (List.range j).flatMap (must1 l ids)
def lead (l : List SConstraint) (ids : List Int) (j : Nat) : List Int := ((List.range j).filter fun i => decide (fI l ids i = i)).map fun (i : Nat) => (i : Int)
theorem must_succ (j : Nat) : must l ids (j + 1) = must l ids j ++ must1 l ids j := by
  unfold must; rw [List.range_succ, List.flatMap_append, List.flatMap_singleton]
theorem must_len (j : Nat) : (must l ids j).length ≤ j := by
  induction j with
  | zero => simp [must]
  | succ j ih =>
    rw [must_succ, List.length_append]
    have : (must1 l ids j).length ≤ 1 := by unfold must1; split <;> simp
    omega
theorem lead_succ (j : Nat) : lead l ids (j + 1) = lead l ids j ++ if fI l ids j = j then [(j : Int)] else [] := by
  unfold lead; rw [List.range_succ, List.filter_append, List.map_append]
  congr 1
  by_cases h : fI l ids j = j <;> simp [h]
theorem lead_len (j : Nat) : (lead l ids j).length ≤ j := by
  unfold lead
  rw [List.length_map]
  exact Nat.le_trans (List.length_filter_le _ _) (by simp)
theorem rules_l2 (hl : l.length ≤ 400) (hi : ids.length ≤ 1000) (hn : 1000000 < n) : ∃ m, iter n (fun s => m_constraint_Rules_L2 n ids (cls l) s.1 s.2.1 s.2.2.1 s.2.2.2) ([], [], (0 : Int), []) = some (must l ids ids.length, lead l ids ids.length, m) := by
  have key : ∀ (k j fuel : Nat) (m : List (Int × Int)), j + k = ids.length → k < fuel → (∀ i, (h : i < ids.length) → mget m (root l ids[i]) = if fI l ids i < j then some (fI l ids i : Int) else none) →
      ∃ m', iter fuel (fun s => m_constraint_Rules_L2 n ids (cls l) s.1 s.2.1 s.2.2.1 s.2.2.2) (must l ids j, lead l ids j, (j : Int), m) = some (must l ids ids.length, lead l ids ids.length, m') := by
    intro k
    induction k with
    | zero =>
      intro j fuel m hj hf hm
      obtain ⟨f, rfl⟩ : ∃ f, fuel = f + 1 := ⟨fuel - 1, by omega⟩
      obtain rfl : j = ids.length := by omega
      exact ⟨m, by rw [iter]; simp [m_constraint_Rules_L2]⟩
    | succ k ih =>
      intro j fuel m hj hf hm
      obtain ⟨f, rfl⟩ : ∃ f, fuel = f + 1 := ⟨fuel - 1, by omega⟩
      have hjl : j < ids.length := by omega
      have hml := must_len (l := l) (ids := ids) j
      have hll := lead_len (l := l) (ids := ids) j
      have hfl := fI_le (l := l) hjl
      have hst : ∃ m', m_constraint_Rules_L2 n ids (cls l) (must l ids j) (lead l ids j) (j : Int) m = some (.inl (must l ids (j + 1), lead l ids (j + 1), ((j + 1 : Nat) : Int), m')) ∧ ∀ i, (h : i < ids.length) → mget m' (root l ids[i]) = if fI l ids i < j + 1 then some (fI l ids i : Int) else none := by
        simp only [m_constraint_Rules_L2]
        rw [if_pos (decide_eq_true (by omega)), ixL hjl, Option.bind_some, of_eq (by omega), Option.bind_some, wadd1 hjl (by simp only [ML]; omega), hm j hjl, must_succ, lead_succ]
        unfold must1
        by_cases hf : fI l ids j < j
        · rw [if_pos hf, if_pos hf, if_neg (show ¬ fI l ids j = j by omega)]
          simp only [Option.isSome_some, if_true, Option.getD_some]
          rw [app_one (by omega) (by omega)]
          refine ⟨m, by simp, fun i h => ?_⟩
          rw [hm i h]
          by_cases e : fI l ids i = j
          · have h1 := fI_root (l := l) h
            have h2 := fI_congr (l := l) (fI_lt h) h h1
            rw [e] at h2
            omega
          · by_cases h2 : fI l ids i < j
            · rw [if_pos h2, if_pos (by omega)]
            · rw [if_neg h2, if_neg (by omega)]
        · have hjj : fI l ids j = j := by omega
          rw [if_neg hf, if_neg hf, if_pos hjj]
          simp only [Option.isSome_none, Bool.false_eq_true, if_false, Option.bind_some]
          rw [app_one (by omega) (by omega)]
          refine ⟨mput m (root l ids[j]) (j : Int), by simp, fun i h => ?_⟩
          rw [mget_mput]
          by_cases e : root l ids[i] = root l ids[j]
          · rw [if_pos e, fI_congr h hjl e, hjj, if_pos (by omega)]
          · rw [if_neg e, hm i h]
            by_cases e2 : fI l ids i = j
            · exfalso
              have h1 := fI_root (l := l) h
              simp only [e2] at h1
              exact e h1.symm
            · by_cases h2 : fI l ids i < j
              · rw [if_pos h2, if_pos (by omega)]
              · rw [if_neg h2, if_neg (by omega)]
      obtain ⟨m', e, h2⟩ := hst
      rw [iter]
      dsimp only
      rw [e]
      exact ih (j + 1) f m' (by omega) (by omega) h2
  exact key ids.length 0 n [] (by omega) (by omega) (fun i h => by rw [mget_nil, if_neg (by omega)])
/-! ### what may not be together -/
def ap (l : List SConstraint) (ids : List Int) (p q : Int) : Bool := apL l (ids.getD p.toNat 0) (ids.getD q.toNat 0)
def canRow (l : List SConstraint) (ids : List Int) (p : Int) (v : List Int) : List SConstraint := (v.filter (ap l ids p)).map fun q => ⟨2, p, q⟩
def can (l : List SConstraint) (ids pl : List Int) (j : Nat) : List SConstraint := (List.range j).flatMap fun i => canRow l ids (pl.getD i 0) (pl.drop (i + 1))
theorem canRow_len (p : Int) (v : List Int) : (canRow l ids p v).length ≤ v.length := by
  unfold canRow; rw [List.length_map]; exact List.length_filter_le _ _
theorem can_succ (pl : List Int) (j : Nat) : can l ids pl (j + 1) = can l ids pl j ++ canRow l ids (pl.getD j 0) (pl.drop (j + 1)) := by
  unfold can; rw [List.range_succ, List.flatMap_append, List.flatMap_singleton]
theorem can_len (pl : List Int) (j : Nat) : (can l ids pl j).length ≤ j * pl.length := by
  induction j with
  | zero => simp [can]
  | succ j ih =>
    rw [can_succ, List.length_append, Nat.succ_mul]
    have := canRow_len (l := l) (ids := ids) (pl.getD j 0) (pl.drop (j + 1))
    rw [List.length_drop] at this
    omega
def InR (ids : List Int) (p : Int) : Prop := 0 ≤ p ∧ p < ids.length
theorem inR_ix {p : Int} (h : InR ids p) : ix ids p = some (ids.getD p.toNat 0) := ix_int 0 h.1 h.2
theorem rules_l4 {p : Int} {v : List Int} {s : List SConstraint} (hl : l.length ≤ 400) (hv : v.length ≤ 1000) (hs : s.length ≤ 10000) (hp : InR ids p) (hq : ∀ q ∈ v, InR ids q) (hn : 1000000 < n) :
    iter n (fun t => m_constraint_Rules_L4 n l ids (cls l) p v t.1 t.2) (s, (0 : Int)) = some (s ++ canRow l ids p v) := by
  refine iter_to (f := fun t => m_constraint_Rules_L4 n l ids (cls l) p v t.1 t.2) (fun j => (s ++ canRow l ids p (v.take j), (j : Int))) v.length n _ (fun j hj => ?_) (by simp [m_constraint_Rules_L4]) (by omega) (by simp [canRow])
  have hcl := canRow_len (l := l) (ids := ids) p (v.take j)
  rw [List.length_take] at hcl
  have hqj := hq _ (List.getElem_mem hj)
  have e : canRow l ids p (v.take (j + 1)) = canRow l ids p (v.take j) ++ if ap l ids p v[j] = true then [⟨2, p, v[j]⟩] else [] := by
    unfold canRow
    rw [take_snoc hj, List.filter_append, List.map_append]
    congr 1
    cases h : ap l ids p v[j] <;> simp [h]
  simp only [m_constraint_Rules_L4]
  rw [if_pos (decide_eq_true (by omega)), ixL hj, Option.bind_some, inR_ix hp, Option.bind_some, inR_ix hqj, Option.bind_some, apart_eq (by omega) hn, Option.bind_some, wadd1 hj (by simp only [ML]; omega), e]
  show (Option.bind (if ap l ids p v[j] = true then _ else _) _) = _
  cases h : ap l ids p v[j] with
  | true =>
    simp only [if_true]
    rw [app_one (by rw [List.length_append]; omega) (by rw [List.length_append]; omega)]
    simp
  | false => simp
theorem rules_l3 {pl : List Int} {s m0 : List SConstraint} {m : List (Int × Int)} (hl : l.length ≤ 400) (hpl : pl.length ≤ 12) (hs : s.length ≤ 12) (hp : ∀ q ∈ pl, InR ids q) (hn : 1000000 < n) :
    iter n (fun t => m_constraint_Rules_L3 n l ids (cls l) (m0, pl, m) t.1 t.2) (s, (0 : Int)) = some (s ++ can l ids pl pl.length) := by
  refine iter_to (f := fun t => m_constraint_Rules_L3 n l ids (cls l) (m0, pl, m) t.1 t.2) (fun j => (s ++ can l ids pl j, (j : Int))) pl.length n _ (fun j hj => ?_) (by simp [m_constraint_Rules_L3]) (by omega) (by simp [can])
  have hcl := can_len (l := l) (ids := ids) pl j
  have hmul : j * pl.length ≤ 12 * 12 := Nat.mul_le_mul (by omega) hpl
  simp only [m_constraint_Rules_L3]
  rw [if_pos (decide_eq_true (by omega)), ixL hj, Option.bind_some, wadd1 hj (by simp only [ML]; omega), show slc pl ((j + 1 : Nat) : Int) (pl.length : Int) = some (pl.drop (j + 1)) by unfold slc; rw [if_pos (by omega), Int.toNat_natCast, Int.toNat_natCast, List.take_length], Option.bind_some,
    rules_l4 hl (by rw [List.length_drop]; omega) (by rw [List.length_append]; omega) (hp _ (List.getElem_mem hj)) (fun q hq => hp q (List.mem_of_mem_drop hq)) hn, Option.bind_some, can_succ, getD_at hj, List.append_assoc]
end
end
section
/- The rules of a list of records, in the reference. Conditions: none. -/
open Go
section
variable {n : Nat} {l : List SConstraint} {ids : List Int}
theorem swp_lt {x : SConstraint} (h : x.fA < x.fB) : swp x = x := by
  obtain ⟨k, p, q⟩ := x
  unfold swp
  dsimp only at *
  rw [Int.min_eq_left (by omega), Int.max_eq_right (by omega)]
end
end
section
/- The law of lists. Conditions: none. -/
open Go
section
variable {n : Nat} {l : List SConstraint} {ids : List Int}
def Cn (l : List SConstraint) (ids : List Int) (i k : Nat) : Prop := fI l ids i = i ∧ fI l ids k = k ∧ apL l (ids.getD i 0) (ids.getD k 0) = true
end
end
section
/- The law of lists. Conditions: none. -/
open Go
theorem anyN_succ {m : Nat} {p : Nat → Bool} : anyN (m + 1) p = (p 0 || anyN m (fun j => p (j + 1))) := by
  unfold anyN
  rw [List.range_succ_eq_map, List.any_cons, List.any_map]; rfl
theorem iter_anyS {σ ρ : Type} {f : σ → Option (σ ⊕ ρ)} (tb te : ρ) : ∀ (m n : Nat) (st : Nat → σ) (bad : Nat → Bool),
    (∀ j, j < m → (∀ h, h < j → bad h = false) → f (st j) = some (if bad j = true then .inr tb else .inl (st (j + 1)))) → ((∀ h, h < m → bad h = false) → f (st m) = some (.inr te)) → m < n →
    iter n f (st 0) = some (if anyN m bad = true then tb else te)
  | 0, n + 1, st, bad, _, he, _ => by
    rw [iter, he (fun h hh => by omega)]; rfl
  | m + 1, n + 1, st, bad, hf, he, hn => by
    rw [iter, hf 0 (by omega) (fun h hh => by omega), anyN_succ]
    cases hb : bad 0 with
    | true => rfl
    | false =>
      have := iter_anyS (f := f) tb te m n (fun j => st (j + 1)) (fun j => bad (j + 1)) (fun j hj hh => hf (j + 1) (by omega) (fun h q => by
        rcases h with _ | h
        · exact hb
        · exact hh h (by omega))) (fun hh => he (fun h q => by
        rcases h with _ | h
        · exact hb
        · exact hh h (by omega))) (by omega)
      simpa using this
  | _, 0, _, _, _, _, hn => by omega
section
variable {n : Nat} {l : List SConstraint} {ids : List Int}
theorem lead_mem {j : Nat} {y : Int} : y ∈ lead l ids j ↔ ∃ i, i < j ∧ fI l ids i = i ∧ y = (i : Int) := by
  unfold lead
  simp only [List.mem_map, List.mem_filter, List.mem_range, decide_eq_true_eq]
  exact ⟨fun ⟨i, ⟨h1, h2⟩, h3⟩ => ⟨i, h1, h2, h3.symm⟩, fun ⟨i, h1, h2, h3⟩ => ⟨i, ⟨h1, h2⟩, h3.symm⟩⟩
theorem lead_asc (j : Nat) : AscI (lead l ids j) := by
  induction j with
  | zero => simp [lead]
  | succ j ih =>
    rw [lead_succ]
    refine List.pairwise_append.2 ⟨ih, by split <;> simp, fun x hx y hy => ?_⟩
    obtain ⟨i, h1, _, rfl⟩ := lead_mem.1 hx
    split at hy
    · rw [List.mem_singleton.1 hy]; omega
    · cases hy
theorem can_mem {x : SConstraint} : x ∈ can l ids (lead l ids ids.length) (lead l ids ids.length).length ↔ ∃ i k, i < k ∧ k < ids.length ∧ Cn l ids i k ∧ x = ⟨2, (i : Int), (k : Int)⟩ := by
  have hasc := lead_asc (l := l) (ids := ids) ids.length
  unfold can canRow
  simp only [List.mem_flatMap, List.mem_range, List.mem_map, List.mem_filter]
  constructor
  · rintro ⟨t, ht, q, ⟨hq, hap⟩, rfl⟩
    obtain ⟨u, hu, rfl⟩ := List.getElem_of_mem hq
    rw [List.length_drop] at hu
    rw [List.getElem_drop] at hap ⊢
    rw [getD_at ht] at hap ⊢
    have hlt := List.pairwise_iff_getElem.1 hasc t (t + 1 + u) ht (by omega) (by omega)
    obtain ⟨i, h1, h2, h3⟩ := lead_mem.1 (List.getElem_mem ht)
    obtain ⟨k, h4, h5, h6⟩ := lead_mem.1 (List.getElem_mem (show t + 1 + u < (lead l ids ids.length).length by omega))
    rw [h3, h6] at hlt hap
    rw [h3, h6]
    exact ⟨i, k, by omega, h4, ⟨h2, h5, hap⟩, rfl⟩
  · rintro ⟨i, k, h1, h2, ⟨h3, h4, h5⟩, rfl⟩
    obtain ⟨t, ht, hte⟩ := List.getElem_of_mem ((lead_mem (l := l) (ids := ids) (j := ids.length)).2 ⟨i, by omega, h3, rfl⟩)
    obtain ⟨u, hu, hue⟩ := List.getElem_of_mem ((lead_mem (l := l) (ids := ids) (j := ids.length)).2 ⟨k, h2, h4, rfl⟩)
    have htu : t < u := by
      rcases Nat.lt_trichotomy t u with h | h | h
      · exact h
      · subst h; omega
      · have := List.pairwise_iff_getElem.1 hasc u t hu ht h; omega
    refine ⟨t, ht, (k : Int), ⟨?_, ?_⟩, ?_⟩
    · rw [← hue]
      have : (lead l ids ids.length)[u] = ((lead l ids ids.length).drop (t + 1))[u - (t + 1)]'(by rw [List.length_drop]; omega) := by
        rw [List.getElem_drop]; congr 1; omega
      rw [this]
      exact List.getElem_mem _
    · rw [getD_at ht, hte]; exact h5
    · rw [getD_at ht, hte]
theorem must_mem {j : Nat} {x : SConstraint} (h : x ∈ must l ids j) : x.fA < x.fB := by
  unfold must at h
  obtain ⟨i, _, hi⟩ := List.mem_flatMap.1 h
  unfold must1 at hi
  split at hi
  · rw [List.mem_singleton.1 hi]; dsimp only; omega
  · cases hi
def unord (ids : List Int) : Bool := anyN (ids.length - 1) fun j => decide (ids.getD (j + 1) 0 ≤ ids.getD j 0)
def rulesL (l : List SConstraint) (ids : List Int) : List SConstraint := norm (must l ids ids.length ++ can l ids (lead l ids ids.length) (lead l ids ids.length).length)
theorem prog_order (hi : ids.length ≤ 12) (hn : 1000000 < n) : iter n (fun s => m_constraint_Rules_L1 n ids s) 1 = some (if unord ids = true then .inl ([], 19) else .inr ()) := by
  have := iter_anyS (f := fun s => m_constraint_Rules_L1 n ids s) (.inl ([], 19)) (.inr ()) (ids.length - 1) n (fun j => ((j + 1 : Nat) : Int)) (fun j => decide (ids.getD (j + 1) 0 ≤ ids.getD j 0)) (fun j hj _ => by
    simp only [m_constraint_Rules_L1]
    rw [if_pos (decide_eq_true (by omega)), ix_get 0 (show j + 1 < ids.length by omega), Option.bind_some, w64 (by omega) (by omega), show (((j + 1 : Nat) : Int) - 1) = (j : Int) by omega, ix_get 0 (show j < ids.length by omega), Option.bind_some, wadd1 (show j + 1 < ids.length by omega) (by simp only [ML]; omega)]
    split <;> rfl) (fun _ => by simp only [m_constraint_Rules_L1]; rw [if_neg (by rw [decide_eq_true_eq]; omega)]) (by omega)
  exact this
theorem rules_len (hi : ids.length ≤ 12) : (must l ids ids.length ++ can l ids (lead l ids ids.length) (lead l ids ids.length).length).length ≤ 160 := by
  have h1 := must_len (l := l) (ids := ids) ids.length
  have h2 := lead_len (l := l) (ids := ids) ids.length
  have h3 := can_len (l := l) (ids := ids) (lead l ids ids.length) (lead l ids ids.length).length
  have h4 : (lead l ids ids.length).length * (lead l ids ids.length).length ≤ 12 * 12 := Nat.mul_le_mul (by omega) (by omega)
  rw [List.length_append]; omega
theorem Rules_eq (hi : ids.length ≤ 12) (hn : 1000000 < n) : m_constraint_Rules n l ids = some (if validB l = true then (if unord ids = true then ([], 19) else if 0 < (cons l (norm l)).length then ([], 13) else (rulesL l ids, 0)) else ([], 1)) := by
  unfold m_constraint_Rules
  rw [valid_eq hn, Option.bind_some]
  cases hv : validB l with
  | false => rfl
  | true =>
    have hl := (valid_mem hv).1
    rw [if_neg (by decide), prog_order hi hn, Option.bind_some]
    cases hu : unord ids with
    | true => rfl
    | false =>
      simp only [Bool.false_eq_true, if_false, if_true]
      rw [conflicts_eq hv hn, Option.bind_some]
      by_cases hc : 0 < (cons l (norm l)).length
      · rw [if_pos (decide_eq_true (by dsimp only; omega)), if_pos hc]
      · rw [if_neg (by rw [decide_eq_true_eq]; dsimp only; omega), if_neg hc, classesOf_eq (by omega) (by simp only [ML]; omega), Option.bind_some]
        obtain ⟨m, e⟩ := rules_l2 (n := n) (l := l) (ids := ids) hl (by omega) hn
        have h1 := must_len (l := l) (ids := ids) ids.length
        have h2 := lead_len (l := l) (ids := ids) ids.length
        rw [e, Option.bind_some]
        dsimp only
        rw [rules_l3 hl (by omega) (by omega) (fun q hq => by
          obtain ⟨i, h1, _, rfl⟩ := lead_mem.1 hq
          exact ⟨by omega, by omega⟩) hn, Option.bind_some, normal_eq (by have := rules_len (l := l) hi; omega) hn]
        rfl
end
end
end Go.Proofs.Ytkfffaoopcnaoaa.Ab
