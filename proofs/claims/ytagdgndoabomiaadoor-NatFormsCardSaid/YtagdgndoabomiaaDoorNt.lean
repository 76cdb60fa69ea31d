/- Natural numbers as lists of digits to the base 65536: plain laws. Conditions: none. -/
import Derived.Test.YtagdgndoabomiaaDoorPl
namespace Go.Proofs.YtagdgndoabomiaaDoor.Ab
open Go

def val : List Int → Int
  | [] => 0
  | d :: l => d + 65536 * val l
def digs (a : List Int) : Prop := ∀ d ∈ a, 0 ≤ d ∧ d < 65536
def limbs (n : Nat) : List Int := if n = 0 then [] else ((n % 65536 : Nat) : Int) :: limbs (n / 65536)
termination_by n
decreasing_by omega
theorem limbs_zero : limbs 0 = [] := by rw [limbs]; rfl
theorem limbs_pos {n : Nat} (h : n ≠ 0) : limbs n = ((n % 65536 : Nat) : Int) :: limbs (n / 65536) := by rw [limbs, if_neg h]
theorem val_limbs (n : Nat) : val (limbs n) = (n : Int) := by
  induction n using Nat.strongRecOn with
  | _ n ih =>
    by_cases h : n = 0
    · subst h; rw [limbs_zero]; rfl
    · rw [limbs_pos h, val, ih (n / 65536) (by omega)]; omega
theorem digs_nil : digs [] := fun d h => by simp at h
theorem digs_cons {d : Int} {l : List Int} : digs (d :: l) ↔ (0 ≤ d ∧ d < 65536) ∧ digs l := by
  simp [digs]
theorem digs_limbs (n : Nat) : digs (limbs n) := by
  induction n using Nat.strongRecOn with
  | _ n ih =>
    by_cases h : n = 0
    · subst h; rw [limbs_zero]; exact digs_nil
    · rw [limbs_pos h, digs_cons]; exact ⟨by omega, ih _ (by omega)⟩
theorem limbs_len0 {x : Nat} : (limbs x).length = 0 ↔ x = 0 := by
  constructor
  · intro h; by_cases hx : x = 0
    · exact hx
    · rw [limbs_pos hx] at h; simp at h
  · intro h; subst h; rw [limbs_zero]; rfl
theorem val_append (a b : List Int) : val (a ++ b) = val a + 65536 ^ a.length * val b := by
  induction a with
  | nil => simp [val]
  | cons d a ih => simp only [List.cons_append, val, ih, List.length_cons, Int.pow_succ]; grind
theorem val_bounds {a : List Int} (h : digs a) : 0 ≤ val a ∧ val a < 65536 ^ a.length := by
  induction a with
  | nil => simp [val]
  | cons d a ih =>
    rw [digs_cons] at h
    have := ih h.2
    simp only [val, List.length_cons, Int.pow_succ]; omega
theorem pow_pos (k : Nat) : (0 : Int) < 65536 ^ k := Int.pow_pos (by decide)
theorem val_take_succ (a : List Int) (i : Nat) : val (a.take (i + 1)) = val (a.take i) + 65536 ^ i * a.getD i 0 := by
  induction a generalizing i with
  | nil => simp [val]
  | cons d a ih =>
    cases i with
    | zero => simp [val]
    | succ i => simp only [List.take_succ_cons, val, ih i, Int.pow_succ, List.getD_cons_succ]; grind
theorem val_split (a : List Int) (i : Nat) (h : i ≤ a.length) : val a = val (a.take i) + 65536 ^ i * val (a.drop i) := by
  have := val_append (a.take i) (a.drop i)
  rw [List.take_append_drop, List.length_take, Nat.min_eq_left h] at this
  exact this
theorem digs_getD {a : List Int} (h : digs a) (i : Nat) : 0 ≤ a.getD i 0 ∧ a.getD i 0 < 65536 := by
  by_cases hi : i < a.length
  · have : a.getD i 0 ∈ a := by simp [hi]
    exact h _ this
  · rw [List.getD_eq_getElem?_getD, List.getElem?_eq_none (by omega)]; simp
theorem digs_take {a : List Int} (h : digs a) (i : Nat) : digs (a.take i) := fun d hd => h d (List.mem_of_mem_take hd)
theorem digs_drop {a : List Int} (h : digs a) (i : Nat) : digs (a.drop i) := fun d hd => h d (List.mem_of_mem_drop hd)

/-- A list without a zero at its end is that of its value. -/
theorem limbs_val {a : List Int} (h : digs a) (hl : a.length = 0 ∨ a.getD (a.length - 1) 0 ≠ 0) : limbs (val a).toNat = a := by
  induction a with
  | nil => exact limbs_zero
  | cons d a ih =>
    rw [digs_cons] at h
    have h2 := val_bounds h.2
    have hz : a.length = 0 ∨ a.getD (a.length - 1) 0 ≠ 0 := by
      cases a with
      | nil => exact .inl rfl
      | cons e a => exact .inr (by simpa using hl)
    have h3 := ih h.2 hz
    have hp : 0 < val (d :: a) := by
      rw [val]
      cases a with
      | nil =>
        simp only [List.length_cons, List.length_nil, val] at hl ⊢
        simp at hl; omega
      | cons e a =>
        have : val (e :: a) ≠ 0 := by
          intro h0; rw [h0] at h3; simp [limbs_zero] at h3
        omega
    rw [limbs_pos (by omega)]
    have e1 : (val (d :: a)).toNat / 65536 = (val a).toNat := by rw [val]; omega
    have e2 : (((val (d :: a)).toNat % 65536 : Nat) : Int) = d := by rw [val]; omega
    rw [e1, e2, h3]
theorem limbs_last {x : Nat} (h : x ≠ 0) : (limbs x).getD ((limbs x).length - 1) 0 ≠ 0 := by
  induction x using Nat.strongRecOn with
  | _ n ih =>
    rw [limbs_pos h]
    by_cases h2 : n / 65536 = 0
    · rw [h2, limbs_zero]; simp; omega
    · have := ih (n / 65536) (by omega) h2
      have h3 : (limbs (n / 65536)).length ≠ 0 := fun h => h2 (limbs_len0.1 h)
      rw [List.length_cons, show (limbs (n / 65536)).length + 1 - 1 = ((limbs (n / 65536)).length - 1) + 1 by omega, List.getD_cons_succ]
      exact this
theorem limbs_len {x k : Nat} : (limbs x).length ≤ k ↔ x < 65536 ^ k := by
  induction x using Nat.strongRecOn generalizing k with
  | _ n ih =>
    by_cases h : n = 0
    · subst h; rw [limbs_zero]
      have : 0 < 65536 ^ k := Nat.pow_pos (by decide)
      simp [this]
    · rw [limbs_pos h, List.length_cons]
      cases k with
      | zero => simp; omega
      | succ k => rw [Nat.succ_le_succ_iff, ih (n / 65536) (by omega), Nat.pow_succ]; omega
theorem limbs_len_le {x y : Nat} (h : x ≤ y) : (limbs x).length ≤ (limbs y).length :=
  limbs_len.2 (Nat.lt_of_le_of_lt h (limbs_len.1 (Nat.le_refl _)))
/-- Which of two lists of the same length is less is told by the digit from which on they are equal. -/
theorem val_lt_of {a b : List Int} (ha : digs a) (hb : digs b) {k : Nat} (h : k < a.length) (hl : a.length = b.length) (hd : a.drop (k + 1) = b.drop (k + 1)) (hk : a.getD k 0 < b.getD k 0) : val a < val b := by
  have e1 := val_split a (k + 1) (by omega)
  have e2 := val_split b (k + 1) (by omega)
  rw [hd] at e1
  have e3 := val_take_succ a k
  have e4 := val_take_succ b k
  have b1 := val_bounds (digs_take ha k)
  have b2 := val_bounds (digs_take hb k)
  rw [List.length_take, Nat.min_eq_left (by omega)] at b1 b2
  have := Int.mul_le_mul_of_nonneg_left (show a.getD k 0 + 1 ≤ b.getD k 0 by omega) (Int.le_of_lt (pow_pos k))
  rw [Int.mul_add] at this
  omega
theorem drop_ext {a b : List Int} {k : Nat} (hl : a.length = b.length) (h : ∀ i, k ≤ i → i < a.length → a.getD i 0 = b.getD i 0) : a.drop k = b.drop k := by
  apply List.ext_getElem
  · simp [hl]
  · intro i h1 h2
    rw [List.length_drop] at h1 h2
    have := h (k + i) (by omega) (by omega)
    simpa [List.getD_eq_getElem?_getD, show k + i < a.length by omega, show k + i < b.length by omega] using this

/-- The sign of a difference. -/
def sgn (x y : Nat) : Int := if x < y then -1 else if x = y then 0 else 1
theorem sgn_gt {x y : Nat} : 0 < sgn x y ↔ y < x := by unfold sgn; split <;> (try split) <;> omega
theorem sgn_len {x y : Nat} (h : (limbs x).length < (limbs y).length) : x < y := by
  refine Nat.lt_of_not_le fun h2 => ?_
  have := limbs_len_le h2
  omega

/-- A loop whose states keep a law and become fewer. -/
theorem iter_inv {σ τ : Type} {f : σ → Option (σ ⊕ τ)} (I : Nat → σ → Prop) (Q : τ → Prop) (h : ∀ k s, I k s → (∃ s' k', f s = some (.inl s') ∧ k' < k ∧ I k' s') ∨ (∃ t, f s = some (.inr t) ∧ Q t)) :
    ∀ (k n : Nat) (s : σ), I k s → k < n → ∃ t, iter n f s = some t ∧ Q t := by
  intro k
  induction k using Nat.strongRecOn with
  | _ k ih =>
    intro n s hI hn
    cases n with
    | zero => omega
    | succ n =>
      rcases h k s hI with ⟨s', k', h1, h2, h3⟩ | ⟨t, h1, h2⟩
      · obtain ⟨t, e, q⟩ := ih k' h2 n s' h3 (by omega)
        exact ⟨t, by rw [iter, h1]; exact e, q⟩
      · exact ⟨t, by rw [iter, h1]; rfl, h2⟩
theorem ixI {l : List Int} {i : Int} (h0 : 0 ≤ i) (h : i < l.length) : ix l i = some (l.getD i.toNat 0) := ix_int 0 h0 h
theorem app_some {α : Type} {b : Nat} {l m : List α} (hb : b ≤ 1000) (h : l.length + m.length ≤ 100000000000) : app b l m = some (l ++ m) := by
  rw [app, if_pos]
  refine ⟨?_, by omega⟩
  have := Nat.mul_le_mul h hb
  omega
theorem remN {a b : Int} (ha : 0 ≤ a) (hb : 0 < b) : rem a b = some (a % b) := by
  rw [rem, if_neg (by omega), Int.tmod_eq_emod_of_nonneg ha]
theorem quoN {a b : Int} (ha : 0 ≤ a) (hb : 0 < b) (h2 : a ≤ 9223372036854775807) : quo .i64 a b = some (a / b) := by
  rw [quo, if_neg (by omega), quo64 ha hb h2]
abbrev va (a : List Int) : Nat := (val a).toNat
/-- Digits as the program takes them. -/
def vld (a : List Int) : Bool := decide (a.length ≤ 128) && a.all (fun d => decide (0 ≤ d) && decide (d < 65536)) && (decide (a.length = 0) || !decide (a.getD (a.length - 1) 0 = 0))
def LIM : Nat := 65536 ^ 128
theorem vld_limbs {x : Nat} (h : x < LIM) : vld (limbs x) = true := by
  have h1 : (limbs x).length ≤ 128 := limbs_len.2 h
  have h2 := digs_limbs x
  simp only [vld, Bool.and_eq_true, decide_eq_true_eq, List.all_eq_true, Bool.or_eq_true, Bool.not_eq_true']
  refine ⟨⟨h1, fun d hd => by have := h2 d hd; simpa using this⟩, ?_⟩
  by_cases h0 : x = 0
  · subst h0; rw [limbs_zero]; exact .inl rfl
  · exact .inr (decide_eq_false (limbs_last h0))
theorem vld_inv {a : List Int} (h : vld a = true) : ∃ x, x < LIM ∧ a = limbs x := by
  simp only [vld, Bool.and_eq_true, decide_eq_true_eq, List.all_eq_true, Bool.or_eq_true, Bool.not_eq_true'] at h
  obtain ⟨⟨h1, h2⟩, h3⟩ := h
  have h4 : digs a := fun d hd => by have := h2 d hd; simpa using this
  have h5 : limbs (va a) = a := limbs_val h4 (h3.imp id of_decide_eq_false)
  exact ⟨va a, limbs_len.1 (by rw [h5]; exact h1), h5.symm⟩
theorem lim_len {x : Nat} : (limbs x).length ≤ 128 ↔ x < LIM := limbs_len
theorem take_all {l : List Int} {i : Nat} (h : l.length ≤ i) : l.take i = l := List.take_of_length_le h
end Go.Proofs.YtagdgndoabomiaaDoor.Ab
