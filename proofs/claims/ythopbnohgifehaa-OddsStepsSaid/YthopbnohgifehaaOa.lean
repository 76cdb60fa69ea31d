/- What the functions on odds compute. Conditions: none. -/
import Derived.Test.YthopbnohgifehaaNf
namespace Go.Proofs.Ythopbnohgifehaa.Ab
open Go

/-- The product over a list. -/
def pr (f : SRatio → Nat) : List SRatio → Nat
  | [] => 1
  | r :: l => f r * pr f l
theorem pr_append (f : SRatio → Nat) (l m : List SRatio) : pr f (l ++ m) = pr f l * pr f m := by
  induction l with
  | nil => simp [pr]
  | cons r l ih => simp only [List.cons_append, pr, ih, Nat.mul_assoc]
theorem pr_le {f : SRatio → Nat} {l : List SRatio} (h : ∀ r ∈ l, f r ≤ 1000) : pr f l ≤ 1000 ^ l.length := by
  induction l with
  | nil => simp [pr]
  | cons r l ih =>
    rw [pr, List.length_cons, Nat.pow_succ, Nat.mul_comm]
    exact Nat.mul_le_mul (ih (fun x hx => h x (List.mem_cons_of_mem _ hx))) (h r (List.mem_cons_self ..))
theorem pr_pos {f : SRatio → Nat} {l : List SRatio} (h : ∀ r ∈ l, 0 < f r) : 0 < pr f l := by
  induction l with
  | nil => simp [pr]
  | cons r l ih =>
    rw [pr]; exact Nat.mul_pos (h r (List.mem_cons_self ..)) (ih (fun x hx => h x (List.mem_cons_of_mem _ hx)))
abbrev pn (l : List SRatio) : Nat := pr (fun r => r.fNum.toNat) l
abbrev pd (l : List SRatio) : Nat := pr (fun r => r.fDen.toNat) l
def rok (r : SRatio) : Bool := decide (1 ≤ r.fNum) && decide (r.fNum ≤ 1000) && decide (1 ≤ r.fDen) && decide (r.fDen ≤ 1000)
def ovl (l : List SRatio) : Bool := decide (l.length ≤ 12) && l.all rok
theorem rok_iff {r : SRatio} : rok r = true ↔ 1 ≤ r.fNum ∧ r.fNum ≤ 1000 ∧ 1 ≤ r.fDen ∧ r.fDen ≤ 1000 := by
  simp [rok, and_assoc]
theorem ovl_iff {l : List SRatio} : ovl l = true ↔ l.length ≤ 12 ∧ ∀ r ∈ l, 1 ≤ r.fNum ∧ r.fNum ≤ 1000 ∧ 1 ≤ r.fDen ∧ r.fDen ≤ 1000 := by
  simp only [ovl, Bool.and_eq_true, decide_eq_true_eq, List.all_eq_true, rok_iff]
theorem ovl_take {l : List SRatio} (h : ovl l = true) (i : Nat) : ovl (l.take i) = true := by
  rw [ovl_iff] at *
  exact ⟨by simp; omega, fun r hr => h.2 r (List.mem_of_mem_take hr)⟩
theorem ovl_drop {l : List SRatio} (h : ovl l = true) (i : Nat) : ovl (l.drop i) = true := by
  rw [ovl_iff] at *
  exact ⟨by simp; omega, fun r hr => h.2 r (List.mem_of_mem_drop hr)⟩
def BIG : Nat := 1000 ^ 12
theorem pn_le {l : List SRatio} (h : ovl l = true) : 0 < pn l ∧ pn l ≤ BIG := by
  rw [ovl_iff] at h
  exact ⟨pr_pos (fun r hr => by have := h.2 r hr; omega), Nat.le_trans (pr_le (fun r hr => by have := h.2 r hr; omega)) (Nat.pow_le_pow_right (by decide) h.1)⟩
theorem pd_le {l : List SRatio} (h : ovl l = true) : 0 < pd l ∧ pd l ≤ BIG := by
  rw [ovl_iff] at h
  exact ⟨pr_pos (fun r hr => by have := h.2 r hr; omega), Nat.le_trans (pr_le (fun r hr => by have := h.2 r hr; omega)) (Nat.pow_le_pow_right (by decide) h.1)⟩
theorem big_lim : BIG * BIG < LIM := by decide +kernel
theorem big_lim1 : BIG < LIM := by decide +kernel
theorem big8 : BIG ^ 8 < 2 ^ 960 := by decide +kernel

/-- Going over a list and appending what comes of each of its elements. -/
theorem iter_map {α β : Type} [Inhabited α] {l : List α} {g : α → β} {f : List β × Int → Option ((List β × Int) ⊕ List β)} {n : Nat} (d : α)
    (hf : ∀ (i : Nat) (o : List β), i < l.length → o.length = i → f (o, (i : Int)) = some (.inl (o ++ [g (l.getD i d)], ((i + 1 : Nat) : Int)))) (he : ∀ o, f (o, (l.length : Int)) = some (.inr o)) (hn : l.length < n) : iter n f ([], 0) = some (l.map g) := by
  obtain ⟨t, h1, h2⟩ := iter_inv (σ := List β × Int) (f := f) (I := fun k s => ∃ i : Nat, s = ((l.take i).map g, (i : Int)) ∧ i + k = l.length) (Q := fun t => t = l.map g) (by
    rintro k s ⟨i, rfl, h1⟩
    by_cases hk : k = 0
    · right
      have e : i = l.length := by omega
      subst e
      exact ⟨_, he _, by rw [List.take_of_length_le (Nat.le_refl _)]⟩
    · left
      refine ⟨_, k - 1, hf i _ (by omega) (by simp; omega), by omega, i + 1, ?_, by omega⟩
      congr 1
      rw [List.take_succ_eq_append_getElem (by omega), List.map_append]
      simp [show i < l.length by omega]) l.length n ([], 0) ⟨0, by simp, by omega⟩ hn
  rw [h1, h2]
theorem iter_map2 {α β : Type} [Inhabited α] {l : List α} {g : α → β} {f : Int × List β → Option ((Int × List β) ⊕ List β)} {n : Nat} (d : α)
    (hf : ∀ (i : Nat) (o : List β), i < l.length → o.length = i → f ((i : Int), o) = some (.inl (((i + 1 : Nat) : Int), o ++ [g (l.getD i d)]))) (he : ∀ o, f ((l.length : Int), o) = some (.inr o)) (hn : l.length < n) : iter n f (0, []) = some (l.map g) := by
  obtain ⟨t, h1, h2⟩ := iter_inv (σ := Int × List β) (f := f) (I := fun k s => ∃ i : Nat, s = ((i : Int), (l.take i).map g) ∧ i + k = l.length) (Q := fun t => t = l.map g) (by
    rintro k s ⟨i, rfl, h1⟩
    by_cases hk : k = 0
    · right
      have e : i = l.length := by omega
      subst e
      exact ⟨_, he _, by rw [List.take_of_length_le (Nat.le_refl _)]⟩
    · left
      refine ⟨_, k - 1, hf i _ (by omega) (by simp; omega), by omega, i + 1, ?_, by omega⟩
      congr 1
      rw [List.take_succ_eq_append_getElem (by omega), List.map_append]
      simp [show i < l.length by omega]) l.length n (0, []) ⟨0, by simp, by omega⟩ hn
  rw [h1, h2]
theorem law_Own {n : Nat} {l : List SRatio} (h : l.length ≤ 1000) (hn : 10000 < n) : m_law28_Own n l = some l := by
  unfold m_law28_Own
  rw [iter_map2 (l := l) (g := id) (f := fun s => m_law28_Own_L1 n l s.1 s.2) default (fun i o hi ho => by
    simp only [m_law28_Own_L1, show (i : Int) < l.length by omega, decide_true, if_true]
    rw [ix_get default hi, Option.bind_some, app_some (by decide) (by simp; omega), Option.bind_some, wadd1 (show i < 1000 by omega) (by decide)]; rfl) (fun o => by simp [m_law28_Own_L1]) (by omega)]
  simp
theorem law_theirs {n : Nat} {l : List SRatio} (h : l.length ≤ 1000) (hn : 10000 < n) : m_law28_theirs n l = some l := by
  unfold m_law28_theirs
  rw [iter_map (l := l) (g := id) (f := fun s => m_law28_theirs_L1 n l s.1 s.2) default (fun i o hi ho => by
    simp only [m_law28_theirs_L1, show (i : Int) < l.length by omega, decide_true, if_true]
    rw [ix_get default hi, Option.bind_some, app_some (by decide) (by simp; omega), Option.bind_some, wadd1 (show i < 1000 by omega) (by decide)]; rfl) (fun o => by simp [m_law28_theirs_L1]) (by omega)]
  simp
def swp (r : SRatio) : SRatio := ⟨r.fDen, r.fNum⟩
theorem odds_Inverse {n : Nat} {l : List SRatio} (h : l.length ≤ 1000) (hn : 10000 < n) : m_odds_Inverse n l = some (l.map swp) := by
  unfold m_odds_Inverse
  rw [iter_map (l := l) (g := swp) (f := fun s => m_odds_Inverse_L1 n l s.1 s.2) default (fun i o hi ho => by
    simp only [m_odds_Inverse_L1, show (i : Int) < l.length by omega, decide_true, if_true]
    rw [ix_get default hi, Option.bind_some, app_some (by decide) (by simp; omega), Option.bind_some, wadd1 (show i < 1000 by omega) (by decide)]; rfl) (fun o => by simp [m_odds_Inverse_L1]) (by omega)]
  simp
theorem ref_Inverse {n : Nat} {l : List SRatio} (h : l.length ≤ 1000) (hn : 10000 < n) : m_ref28_Inverse n l = some (l.map swp) := by
  unfold m_ref28_Inverse
  rw [iter_map (l := l) (g := swp) (f := fun s => m_ref28_Inverse_L1 n l s.1 s.2) default (fun i o hi ho => by
    simp only [m_ref28_Inverse_L1, show (i : Int) < l.length by omega, decide_true, if_true]
    rw [ix_get default hi, Option.bind_some, Option.bind_some, app_some (by decide) (by simp; omega), Option.bind_some, wadd1 (show i < 1000 by omega) (by decide)]; rfl) (fun o => by simp [m_ref28_Inverse_L1]) (by omega)]
  simp
theorem odds_Valid {n : Nat} {l : List SRatio} (hl : l.length ≤ ML) (hn : l.length < n) : m_odds_Valid n l = some (ovl l) := by
  have h2 : m_slices_ContainsFunc_odds_Ratio_odds_Ratio n l (fun y1 => m_odds_Valid_1 n y1) = some (l.any fun r => !rok r) :=
    contains_loop n l (fun y1 => m_odds_Valid_1 n y1) (fun r => !rok r) (fun r _ => by
      rw [m_odds_Valid_1]; congr 1
      simp only [rok, Bool.not_and, ← decide_not, Int.not_le, Bool.or_assoc]) hl hn
  unfold m_odds_Valid
  rw [h2]
  by_cases h : l.length ≤ 12
  · simp only [show (l.length : Int) ≤ 12 by omega, decide_true, if_true, Option.bind_some, Bool.true_and, ovl, h]
    rw [List.not_any_eq_all_not]; simp
  · simp [ovl, h, show ¬ (l.length : Int) ≤ 12 by omega]
theorem ref28_Valid {n : Nat} {l : List SRatio} (hl : l.length ≤ ML) (hn : l.length < n) : m_ref28_Valid n l = some (ovl l) := by
  unfold m_ref28_Valid
  rcases iter_scan (f := fun s => m_ref28_Valid_L1 n l s) l.length (fun i => !rok (l.getD i default)) (fun _ => .inl false) (.inr ()) l.length 0 n 0 (by omega) (fun j hj => by
    simp only [m_ref28_Valid_L1, show (j : Int) < l.length by omega, decide_true, if_true]
    rw [ix_get default hj, wadd1 hj hl]
    generalize l.getD j default = r
    simp only [Option.bind_some, rok]
    by_cases h1 : r.fNum < 1
    · simp [h1, show ¬ 1 ≤ r.fNum by omega]
    · by_cases h2 : 1000 < r.fNum
      · simp [h1, h2, show ¬ r.fNum ≤ 1000 by omega]
      · by_cases h3 : r.fDen < 1
        · simp [h1, h2, h3, show ¬ 1 ≤ r.fDen by omega, show r.fNum ≤ 1000 by omega]
        · by_cases h4 : 1000 < r.fDen
          · simp [h1, h2, h3, h4, show ¬ r.fDen ≤ 1000 by omega, show r.fNum ≤ 1000 by omega, show 1 ≤ r.fDen by omega]
          · simp [h1, h2, h3, h4, show 1 ≤ r.fNum by omega, show r.fNum ≤ 1000 by omega, show 1 ≤ r.fDen by omega, show r.fDen ≤ 1000 by omega]) (by simp [m_ref28_Valid_L1]) hn rfl with ⟨i, _, h2, h3, _, h5⟩ | ⟨h1, h2⟩
  · rw [h5]
    simp only [Option.bind_some]
    have : l.all rok = false := by
      rw [List.all_eq_false]
      exact ⟨l.getD i default, by simp [h2], by rw [Bool.not_eq_true'] at h3; rw [h3]; decide⟩
    simp [ovl, this]
  · rw [h2]
    simp only [Option.bind_some]
    have : l.all rok = true := by
      rw [List.all_eq_true]
      intro d hd
      obtain ⟨i, h, rfl⟩ := List.getElem_of_mem hd
      have := h1 i (by omega) h
      simpa [List.getD_eq_getElem?_getD, h] using this
    simp only [ovl, this, Bool.and_true]
    congr 1
    rw [Bool.eq_iff_iff]; simp; omega
theorem odds_number {n : Nat} {x : Int} (h : 0 ≤ x) (h2 : x ≤ 9223372036854775807) (hn : 100 < n) : m_odds_number n x = some (limbs x.toNat) := by
  obtain ⟨k, rfl⟩ := Int.eq_ofNat_of_zero_le h
  unfold m_odds_number
  rw [nat_Of (x := k) (by omega) hn]; rfl
theorem odds_times {n x y : Nat} (hx : x < LIM) (hy : y < LIM) (h : x * y < LIM) (hn : 10000 < n) : m_odds_times n (limbs x) (limbs y) = some (limbs (x * y)) := by
  unfold m_odds_times
  rw [nat_Mul hx hy hn, if_pos h]; rfl
theorem pr_take_succ (f : SRatio → Nat) {l : List SRatio} {i : Nat} (h : i < l.length) : pr f (l.take (i + 1)) = pr f (l.take i) * f (l.getD i default) := by
  rw [List.take_succ_eq_append_getElem h, pr_append]
  simp [pr, h]
theorem small_lim {x : Nat} (h : x ≤ 1000) : x < LIM := Nat.lt_of_le_of_lt (Nat.le_trans h (show 1000 ≤ BIG by decide)) big_lim1
theorem odds_parts {n : Nat} {l : List SRatio} (h : ovl l = true) (hn : 10000 < n) : m_odds_parts n l = some (limbs (pn l), limbs (pd l)) := by
  unfold m_odds_parts
  have hv := ovl_iff.1 h
  rw [odds_number (by decide) (by decide) (by omega), Option.bind_some, Option.bind_some]
  obtain ⟨t, h1, h2⟩ := iter_inv (σ := List Int × List Int × Int) (f := fun s => m_odds_parts_L1 n l s.1 s.2.1 s.2.2)
    (I := fun k s => ∃ i : Nat, s = (limbs (pn (l.take i)), limbs (pd (l.take i)), (i : Int)) ∧ i + k = l.length) (Q := fun t => t = (limbs (pn l), limbs (pd l))) (by
      rintro k s ⟨i, rfl, h1⟩
      simp only [m_odds_parts_L1]
      by_cases hk : k = 0
      · right
        have e : i = l.length := by omega
        subst e
        exact ⟨(limbs (pn l), limbs (pd l)), by simp, rfl⟩
      · left
        have hi : i < l.length := by omega
        have hr := hv.2 (l.getD i default) (by simp [hi])
        have p1 := pn_le (ovl_take h i)
        have p2 := pd_le (ovl_take h i)
        have p3 := pn_le (ovl_take h (i + 1))
        have p4 := pd_le (ovl_take h (i + 1))
        have s1 : pn (l.take (i + 1)) = pn (l.take i) * (l.getD i default).fNum.toNat := pr_take_succ (fun r => r.fNum.toNat) hi
        have s2 : pd (l.take (i + 1)) = pd (l.take i) * (l.getD i default).fDen.toNat := pr_take_succ (fun r => r.fDen.toNat) hi
        have bl := big_lim1
        simp only [show (i : Int) < l.length by omega, decide_true, if_true]
        rw [ix_get default hi, Option.bind_some]
        generalize l.getD i default = r at *
        rw [odds_number (by omega) (by omega) (by omega), Option.bind_some, odds_times (by omega) (small_lim (by omega)) (by rw [← s1]; omega) hn, Option.bind_some, odds_number (by omega) (by omega) (by omega), Option.bind_some,
          odds_times (by omega) (small_lim (by omega)) (by rw [← s2]; omega) hn, Option.bind_some, ← s1, ← s2, wadd1 (show i < 1000 by omega) (by decide)]
        exact ⟨_, k - 1, rfl, by omega, i + 1, rfl, by omega⟩) l.length n (limbs (1 : Int).toNat, limbs (1 : Int).toNat, 0) ⟨0, rfl, by omega⟩ (by omega)
  rw [h1, h2]; rfl
theorem odds_Product {n : Nat} {l : List SRatio} (h : ovl l = true) (hn : 100000 < n) : m_odds_Product n l = some (limbs (pn l / Nat.gcd (pn l) (pd l)), limbs (pd l / Nat.gcd (pn l) (pd l)), 0) := by
  unfold m_odds_Product
  have hv := ovl_iff.1 h
  have p1 := pn_le h
  have p2 := pd_le h
  have bl := big_lim1
  have g0 : 0 < Nat.gcd (pn l) (pd l) := Nat.gcd_pos_of_pos_left _ p1.1
  have g1 : Nat.gcd (pn l) (pd l) ≤ pn l := Nat.gcd_le_left _ p1.1
  rw [odds_Valid (by simp only [ML]; omega) (by omega), h]
  simp only [Option.bind_some, Bool.not_true, Bool.false_eq_true, if_false]
  rw [odds_parts h (by omega), Option.bind_some]
  dsimp only
  rw [nat_Gcd (by omega) (by omega) hn, Option.bind_some]
  dsimp only
  rw [nat_Divide (by omega) (by omega) g0 hn, Option.bind_some, nat_Divide (by omega) (by omega) g0 hn]; rfl
end Go.Proofs.Ythopbnohgifehaa.Ab
