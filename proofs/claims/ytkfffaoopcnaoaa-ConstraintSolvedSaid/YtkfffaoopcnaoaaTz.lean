/- Plain laws, joined. Conditions: none. -/
import Derived.Test.YtkfffaoopcnaoaaTw
namespace Go.Proofs.Ytkfffaoopcnaoaa.Ab
section
/- The law of solved rules. Conditions: none. -/
open Go
section
variable {n : Nat} {l : List SConstraint} {ids : List Int}
def up (x : SConstraint) : SConstraint := ⟨x.fKind, x.fA + 1, x.fB + 1⟩
def ownL (l : List SConstraint) (ids : List Int) : List SConstraint := (rulesL l ids).map up
theorem rulesL_mem {x : SConstraint} : x ∈ rulesL l ids ↔ x ∈ must l ids ids.length ∨ ∃ i k, i < k ∧ k < ids.length ∧ Cn l ids i k ∧ x = ⟨2, (i : Int), (k : Int)⟩ := by
  unfold rulesL
  rw [norm_mem]
  constructor
  · rintro ⟨y, hy, rfl⟩
    rcases List.mem_append.1 hy with h | h
    · rw [swp_lt (must_mem h)]; exact .inl h
    · obtain ⟨i, k, h1, h2, h3, rfl⟩ := can_mem.1 h
      rw [swp_lt (by dsimp only; omega)]
      exact .inr ⟨i, k, h1, h2, h3, rfl⟩
  · rintro (h | h)
    · exact ⟨x, List.mem_append_left _ h, swp_lt (must_mem h)⟩
    · obtain ⟨i, k, h1, h2, h3, rfl⟩ := h
      exact ⟨_, List.mem_append_right _ (can_mem.2 ⟨i, k, h1, h2, h3, rfl⟩), swp_lt (by dsimp only; omega)⟩
theorem must_mem2 {x : SConstraint} : x ∈ must l ids ids.length ↔ ∃ i, i < ids.length ∧ fI l ids i < i ∧ x = ⟨1, (fI l ids i : Int), (i : Int)⟩ := by
  unfold must
  simp only [List.mem_flatMap, List.mem_range]
  constructor
  · rintro ⟨i, hi, h⟩
    unfold must1 at h
    split at h
    · rename_i hf; exact ⟨i, hi, hf, by simpa using h⟩
    · cases h
  · rintro ⟨i, hi, hf, rfl⟩
    exact ⟨i, hi, by unfold must1; rw [if_pos hf]; simp⟩
theorem own_mem {x : SConstraint} : x ∈ ownL l ids ↔ (∃ i, i < ids.length ∧ fI l ids i < i ∧ x = ⟨1, (fI l ids i : Int) + 1, (i : Int) + 1⟩) ∨ ∃ i k, i < k ∧ k < ids.length ∧ Cn l ids i k ∧ x = ⟨2, (i : Int) + 1, (k : Int) + 1⟩ := by
  unfold ownL
  rw [List.mem_map]
  constructor
  · rintro ⟨y, hy, rfl⟩
    rcases rulesL_mem.1 hy with h | ⟨i, k, h1, h2, h3, rfl⟩
    · obtain ⟨i, h1, h2, rfl⟩ := must_mem2.1 h
      exact .inl ⟨i, h1, h2, rfl⟩
    · exact .inr ⟨i, k, h1, h2, h3, rfl⟩
  · rintro (⟨i, h1, h2, rfl⟩ | ⟨i, k, h1, h2, h3, rfl⟩)
    · exact ⟨_, rulesL_mem.2 (.inl (must_mem2.2 ⟨i, h1, h2, rfl⟩)), rfl⟩
    · exact ⟨_, rulesL_mem.2 (.inr ⟨i, k, h1, h2, h3, rfl⟩), rfl⟩
theorem own_root {i k : Nat} (hi : i < ids.length) (hk : k < ids.length) : root (ownL l ids) ((i : Int) + 1) = root (ownL l ids) ((k : Int) + 1) ↔ root l ids[i] = root l ids[k] := by
  constructor
  · intro h
    have hc : Closed (ownL l ids) fun y => ∃ t, ∃ h : t < ids.length, y = (t : Int) + 1 ∧ root l ids[t] = root l ids[k] := fun c hc hkd => by
      rcases own_mem.1 hc with ⟨t, h1, h2, rfl⟩ | ⟨p, q, _, _, _, rfl⟩
      · have hr := fI_root (l := l) h1
        dsimp only
        constructor
        · rintro ⟨u, hu, e1, e2⟩
          obtain rfl : u = fI l ids t := by omega
          exact ⟨t, h1, rfl, by rw [← hr]; exact e2⟩
        · rintro ⟨u, hu, e1, e2⟩
          obtain rfl : u = t := by omega
          exact ⟨fI l ids u, fI_lt h1, rfl, by rw [hr]; exact e2⟩
      · dsimp only at hkd; omega
    obtain ⟨t, ht, e1, e2⟩ := (root_closed hc h).2 ⟨k, hk, rfl, rfl⟩
    obtain rfl : i = t := by omega
    exact e2
  · intro h
    have key : ∀ j, j < ids.length → root (ownL l ids) ((j : Int) + 1) = root (ownL l ids) ((fI l ids j : Int) + 1) := fun j hj => by
      have hle := fI_le (l := l) hj
      rcases Nat.lt_or_ge (fI l ids j) j with h1 | h1
      · exact (root_edge _ (own_mem.2 (.inl ⟨j, hj, h1, rfl⟩)) rfl).symm
      · have : fI l ids j = j := by omega
        rw [this]
    rw [key i hi, key k hk, fI_congr hi hk h]
theorem no_con (hc : ¬ 0 < (cons l (norm l)).length) {z : SConstraint} (hz : z ∈ l) (hk : z.fKind = 2) : root l z.fA ≠ root l z.fB := fun e => by
  have : conOf l (swp z) ∈ cons l (norm l) := by
    unfold cons
    refine List.mem_map.2 ⟨swp z, List.mem_filter.2 ⟨norm_mem.2 ⟨z, hz, rfl⟩, ?_⟩, rfl⟩
    simp only [isCon, Bool.and_eq_true, decide_eq_true_eq]
    refine ⟨hk, ?_⟩
    show root l (min z.fA z.fB) = root l (max z.fA z.fB)
    rcases Int.le_total z.fA z.fB with h | h
    · rw [Int.min_eq_left h, Int.max_eq_right h]; exact e
    · rw [Int.min_eq_right h, Int.max_eq_left h]; exact e.symm
  exact hc (List.length_pos_of_mem this)
theorem apL_root {a b x y : Int} (h1 : root l x = root l a) (h2 : root l y = root l b) : apL l x y = apL l a b := by
  unfold apL apC; rw [h1, h2]
theorem apL_comm {a b : Int} : apL l a b = apL l b a := (apL_swap (l := l) (a := b) (b := a) (x := b) (y := a) rfl rfl)
theorem own_ap (hc : ¬ 0 < (cons l (norm l)).length) {i k : Nat} (hi : i < ids.length) (hk : k < ids.length) : apL (ownL l ids) ((i : Int) + 1) ((k : Int) + 1) = apL l ids[i] ids[k] := by
  rw [Bool.eq_iff_iff]
  constructor
  · intro h
    unfold apL at h
    obtain ⟨x, hx, h2⟩ := List.any_eq_true.1 h
    simp only [apC, Bool.and_eq_true, Bool.or_eq_true, decide_eq_true_eq] at h2
    rcases own_mem.1 hx with ⟨t, _, _, rfl⟩ | ⟨p, q, h3, h4, ⟨_, _, h5⟩, rfl⟩
    · have := h2.1; dsimp only at this; omega
    · rw [getD_at (show p < ids.length by omega), getD_at h4] at h5
      dsimp only at h2
      rcases h2.2 with ⟨e1, e2⟩ | ⟨e1, e2⟩
      · rw [← apL_root ((own_root (show p < ids.length by omega) hi).1 e1) ((own_root h4 hk).1 e2)]; exact h5
      · rw [apL_comm, ← apL_root ((own_root (show p < ids.length by omega) hk).1 e1) ((own_root h4 hi).1 e2)]; exact h5
  · intro h
    have hfi := fI_lt (l := l) hi
    have hfk := fI_lt (l := l) hk
    have ri := fI_root (l := l) hi
    have rk := fI_root (l := l) hk
    have fi : fI l ids (fI l ids i) = fI l ids i := fI_congr hfi hi ri
    have fk : fI l ids (fI l ids k) = fI l ids k := fI_congr hfk hk rk
    have hap : apL l (ids[fI l ids i]'hfi) (ids[fI l ids k]'hfk) = true := by rw [apL_root ri rk]; exact h
    have oi := (own_root (l := l) hfi hi).2 ri
    have ok := (own_root (l := l) hfk hk).2 rk
    have fin : ∀ c ∈ ownL l ids, c.fKind = 2 → (root (ownL l ids) c.fA = root (ownL l ids) ((i : Int) + 1) ∧ root (ownL l ids) c.fB = root (ownL l ids) ((k : Int) + 1) ∨ root (ownL l ids) c.fA = root (ownL l ids) ((k : Int) + 1) ∧ root (ownL l ids) c.fB = root (ownL l ids) ((i : Int) + 1)) → apL (ownL l ids) ((i : Int) + 1) ((k : Int) + 1) = true := fun c h1 h2 h3 => by
      unfold apL
      refine List.any_eq_true.2 ⟨c, h1, ?_⟩
      simp only [apC, Bool.and_eq_true, Bool.or_eq_true, decide_eq_true_eq]
      exact ⟨h2, h3⟩
    rcases Nat.lt_trichotomy (fI l ids i) (fI l ids k) with q | q | q
    · exact fin _ (own_mem.2 (.inr ⟨_, _, q, hfk, ⟨fi, fk, by rw [getD_at hfi, getD_at hfk]; exact hap⟩, rfl⟩)) rfl (.inl ⟨oi, ok⟩)
    · exfalso
      have hik : root l ids[i] = root l ids[k] := by rw [← ri, ← rk]; congr 2
      unfold apL at h
      obtain ⟨x, hx, h2⟩ := List.any_eq_true.1 h
      simp only [apC, Bool.and_eq_true, Bool.or_eq_true, decide_eq_true_eq] at h2
      refine no_con hc hx h2.1 ?_
      rcases h2.2 with ⟨e1, e2⟩ | ⟨e1, e2⟩
      · rw [e1, e2, hik]
      · rw [e1, e2, hik]
    · exact fin _ (own_mem.2 (.inr ⟨_, _, q, hfi, ⟨fk, fi, by rw [getD_at hfi, getD_at hfk, apL_comm]; exact hap⟩, rfl⟩)) rfl (.inr ⟨ok, oi⟩)
theorem own_valid (hi : ids.length ≤ 12) : validB (ownL l ids) = true := by
  have hr := norm_len (must l ids ids.length ++ can l ids (lead l ids ids.length) (lead l ids ids.length).length)
  have hr2 := rules_len (l := l) (ids := ids) hi
  unfold validB
  simp only [Bool.and_eq_true, decide_eq_true_eq, Bool.not_eq_true', List.any_eq_false]
  refine ⟨by unfold ownL rulesL; rw [List.length_map]; omega, fun x hx => ?_⟩
  have e : badC x = false := by
    unfold badC idB
    rcases own_mem.1 hx with ⟨t, h1, h2, rfl⟩ | ⟨p, q, h3, h4, _, rfl⟩
    · simp; omega
    · simp; omega
  simp [e]
end
end
section
/- The law of solved rules. Conditions: none. -/
open Go
section
variable {n : Nat} {l : List SConstraint} {ids : List Int}
theorem solved_l1 {t : List SConstraint} {e : Int} (ht : t.length ≤ 1000) (hx : ∀ x ∈ t, 0 ≤ x.fA ∧ x.fA ≤ 1000 ∧ 0 ≤ x.fB ∧ x.fB ≤ 1000) (hn : 1000000 < n) : iter n (fun s => m_law32_ConstraintSolved_L1 n (t, e) s.1 s.2) (([] : List SConstraint), (0 : Int)) = some (t.map up) := by
  refine iter_to (f := fun s => m_law32_ConstraintSolved_L1 n (t, e) s.1 s.2) (fun j => ((t.take j).map up, (j : Int))) t.length n _ (fun j hj => ?_) (by simp [m_law32_ConstraintSolved_L1]) (by omega) rfl
  have hm := hx _ (List.getElem_mem hj)
  simp only [m_law32_ConstraintSolved_L1]
  rw [if_pos (decide_eq_true (by omega)), ixL hj, Option.bind_some, wadd1 hj (by simp only [ML]; omega), w64 (by omega) (by omega), w64 (by omega) (by omega), app_one (by rw [List.length_map, List.length_take]; omega) (by rw [List.length_map, List.length_take]; omega), take_snoc hj, List.map_append]
  rfl
theorem solved_all (hn : 1000000 < n) (haw : m_law32_awake n = some true) : m_law32_ConstraintSolved n l ids = some true := by
  unfold m_law32_ConstraintSolved
  rw [haw, Option.bind_some]
  by_cases hl : (14 : Int) < (l.length : Int)
  · rw [decide_eq_true hl]; rfl
  by_cases hi : (10 : Int) < (ids.length : Int)
  · rw [decide_eq_false hl, decide_eq_true hi]; rfl
  rw [decide_eq_false hl, decide_eq_false hi, if_pos (by decide), refvalid_eq (by omega) hn, Option.bind_some]
  cases hv : validB l with
  | false => rfl
  | true =>
    rw [if_neg (by decide), Rules_eq (by omega) hn, hv, if_pos rfl, Option.bind_some]
    cases hu : unord ids with
    | true => rfl
    | false =>
      rw [if_neg (show ¬ false = true by decide)]
      by_cases hc : 0 < (cons l (norm l)).length
      · rw [if_pos hc]; rfl
      · have hvo := own_valid (l := l) (ids := ids) (by omega)
        have hlo := (valid_mem hvo).1
        have hr := norm_len (must l ids ids.length ++ can l ids (lead l ids ids.length) (lead l ids ids.length).length)
        have hr2 := rules_len (l := l) (ids := ids) (by omega)
        have hL1 := solved_l1 (n := n) (t := rulesL l ids) (e := 0) (by unfold rulesL; omega) (fun x hx => by
          rcases rulesL_mem.1 hx with h | ⟨i, k, h1, h2, h3, rfl⟩
          · obtain ⟨i, h1, h2, rfl⟩ := must_mem2.1 h
            dsimp only; omega
          · dsimp only; omega) hn
        rw [if_neg hc, if_neg (by simp), hL1, Option.bind_some]
        have hd : ∀ (l : List SConstraint) y c, decide (y ∈ grp l c) = decide (root l y = root l c) := fun l y c => decide_eq_decide.2 grp_mem
        have hL2 : iter n (fun s => m_law32_ConstraintSolved_L2 n l ids ((rulesL l ids).map up) s) 0 = some (.inr ()) := by
          show iter n (fun s => m_law32_ConstraintSolved_L2 n l ids (ownL l ids) s) 0 = _
          refine iter_to (f := fun s => m_law32_ConstraintSolved_L2 n l ids (ownL l ids) s) (fun j => (j : Int)) ids.length n _ (fun i hil => ?_) (by simp [m_law32_ConstraintSolved_L2]) (by omega) rfl
          have g1 := grp_len l ids[i]
          have g2 := grp_len (ownL l ids) ((i : Int) + 1)
          have hL3 : iter n (fun s => m_law32_ConstraintSolved_L3 n l ids (ownL l ids) (i : Int) (grp l ids[i], 0) (grp (ownL l ids) ((i : Int) + 1), 0) s) 0 = some (.inr ()) := by
            refine iter_to (f := fun s => m_law32_ConstraintSolved_L3 n l ids (ownL l ids) (i : Int) (grp l ids[i], 0) (grp (ownL l ids) ((i : Int) + 1), 0) s) (fun j => (j : Int)) ids.length n _ (fun k hkl => ?_) (by simp [m_law32_ConstraintSolved_L3]) (by omega) rfl
            have hw := wadd1 (m := ids.length) hkl (by simp only [ML]; omega)
            simp only [m_law32_ConstraintSolved_L3]
            rw [if_pos (decide_eq_true (by omega)), ixL hil, Option.bind_some, ixL hkl, Option.bind_some, Apart_ok hv hn, Option.bind_some, w64 (x := (i : Int) + 1) (by omega) (by omega), w64 (x := (k : Int) + 1) (by omega) (by omega), Apart_ok hvo hn, Option.bind_some, own_ap hc hil hkl]
            have hroot : decide (root (ownL l ids) ((k : Int) + 1) = root (ownL l ids) ((i : Int) + 1)) = decide (root l ids[k] = root l ids[i]) := decide_eq_decide.2 (own_root hkl hil)
            simp only [decide_true, Bool.not_true, Bool.or_self, beq_self_eq_true, Bool.not_false, if_true, Option.bind_some]
            rw [has_eq (by omega) hn, Option.bind_some, has_eq (by omega) hn, Option.bind_some, hd, hd, hroot]
            simp
          simp only [m_law32_ConstraintSolved_L2]
          rw [if_pos (decide_eq_true (by omega)), ixL hil, Option.bind_some, Group_ok hv hn, Option.bind_some, w64 (by omega) (by omega), Group_ok hvo hn, Option.bind_some, if_neg (by simp), hL3]
          simp
        rw [hL2]
        rfl
end
theorem plain_ConstraintSolved {l : List SConstraint} {ids : List Int} : m_law32_ConstraintSolved FU l ids = some true := solved_all fu_big awake32
end
end Go.Proofs.Ytkfffaoopcnaoaa.Ab
