/- Distances of lists from either end, in plain Lean. Conditions: none. -/
namespace Go.Proofs.YtgcmhhcopeiomaaGreat.Ab

/-- The distance, from the front. -/
def ld : List Int → List Int → Nat
  | [], b => b.length
  | _ :: a, [] => a.length + 1
  | x :: a, y :: b => if x = y then ld a b else 1 + min (min (ld a b) (ld a (y :: b))) (ld (x :: a) b)
termination_by a b => a.length + b.length
theorem ld_nil (b : List Int) : ld [] b = b.length := by rw [ld]
theorem ld_nil2 (a : List Int) : ld a [] = a.length := by cases a <;> rw [ld] <;> rfl
theorem ld_cons (x y : Int) (a b : List Int) : ld (x :: a) (y :: b) = if x = y then ld a b else 1 + min (min (ld a b) (ld a (y :: b))) (ld (x :: a) b) := by rw [ld]
theorem ld_comm : ∀ (k : Nat) (a b : List Int), a.length + b.length ≤ k → ld a b = ld b a
  | _, [], b, _ => by rw [ld_nil, ld_nil2]
  | _, a, [], _ => by rw [ld_nil, ld_nil2]
  | 0, x :: a, y :: b, h => by simp at h
  | k + 1, x :: a, y :: b, h => by
    simp only [List.length_cons] at h
    rw [ld_cons, ld_cons, ld_comm k a b (by omega), ld_comm k a (y :: b) (by simp; omega), ld_comm k (x :: a) b (by simp; omega)]
    by_cases e : x = y
    · rw [if_pos e, if_pos e.symm]
    · rw [if_neg e, if_neg (Ne.symm e)]; omega
theorem ld_step : ∀ (k : Nat) (a b : List Int), a.length + b.length ≤ k → ∀ x, ld (x :: a) b ≤ ld a b + 1 ∧ ld a b ≤ ld (x :: a) b + 1 := by
  intro k
  induction k with
  | zero =>
    intro a b h x
    have ha : a = [] := List.length_eq_zero_iff.1 (by omega)
    have hb : b = [] := List.length_eq_zero_iff.1 (by omega)
    subst ha; subst hb
    simp [ld_nil, ld_nil2]
  | succ k ih =>
    intro a b h x
    cases b with
    | nil => simp only [ld_nil2, List.length_cons]; omega
    | cons y b =>
      simp only [List.length_cons] at h
      -- the other side, one shorter
      have h1 := ih b a (by omega) y
      rw [ld_comm _ (y :: b) a (Nat.le_refl _), ld_comm _ b a (Nat.le_refl _)] at h1
      have h2 := ih a b (by omega) x
      have h3 : a.length + b.length ≤ k := by omega
      rw [ld_cons]
      by_cases e : x = y
      · rw [if_pos e]; omega
      · rw [if_neg e]
        refine ⟨by omega, ?_⟩
        have : ld a (y :: b) ≤ ld (x :: a) b + 2 := by omega
        omega
theorem ld_step2 (a b : List Int) (y : Int) : ld a (y :: b) ≤ ld a b + 1 := by
  rw [ld_comm _ a (y :: b) (Nat.le_refl _), ld_comm _ a b (Nat.le_refl _)]
  exact (ld_step _ b a (Nat.le_refl _) y).1

/-- Ways from one list to another, and what they cost. -/
inductive Way : List Int → List Int → Nat → Prop
  | nil : Way [] [] 0
  | keep {a b : List Int} {n : Nat} (x : Int) : Way a b n → Way (x :: a) (x :: b) n
  | rep {a b : List Int} {n : Nat} (x y : Int) : Way a b n → Way (x :: a) (y :: b) (n + 1)
  | del {a b : List Int} {n : Nat} (x : Int) : Way a b n → Way (x :: a) b (n + 1)
  | ins {a b : List Int} {n : Nat} (y : Int) : Way a b n → Way a (y :: b) (n + 1)
theorem Way.le {a b : List Int} {n : Nat} (h : Way a b n) : ld a b ≤ n := by
  induction h with
  | nil => simp [ld_nil]
  | keep x _ ih => rw [ld_cons, if_pos rfl]; exact ih
  | rep x y _ ih =>
    rw [ld_cons]
    split <;> omega
  | @del a b n x _ ih => have := (ld_step _ a b (Nat.le_refl _) x).1; omega
  | @ins a b n y _ ih => have := ld_step2 a b y; omega
theorem Way.all : ∀ (b : List Int), Way [] b b.length
  | [] => .nil
  | y :: b => .ins y (Way.all b)
theorem Way.all2 : ∀ (a : List Int), Way a [] a.length
  | [] => .nil
  | x :: a => .del x (Way.all2 a)
theorem Way.best : ∀ (k : Nat) (a b : List Int), a.length + b.length ≤ k → Way a b (ld a b)
  | _, [], b, _ => by rw [ld_nil]; exact .all b
  | _, a, [], _ => by rw [ld_nil2]; exact .all2 a
  | 0, x :: a, y :: b, h => by simp at h
  | k + 1, x :: a, y :: b, h => by
    simp only [List.length_cons] at h
    rw [ld_cons]
    by_cases e : x = y
    · subst e; rw [if_pos rfl]; exact .keep x (Way.best k a b (by omega))
    · rw [if_neg e]
      have h1 := Way.best k a b (by omega)
      have h2 := Way.best k a (y :: b) (by simp; omega)
      have h3 := Way.best k (x :: a) b (by simp; omega)
      rcases Nat.le_total (ld a b) (ld a (y :: b)) with c | c
      · rw [Nat.min_eq_left c]
        rcases Nat.le_total (ld a b) (ld (x :: a) b) with d | d
        · rw [Nat.min_eq_left d, Nat.add_comm]; exact .rep x y h1
        · rw [Nat.min_eq_right d, Nat.add_comm]; exact .ins y h3
      · rw [Nat.min_eq_right c]
        rcases Nat.le_total (ld a (y :: b)) (ld (x :: a) b) with d | d
        · rw [Nat.min_eq_left d, Nat.add_comm]; exact .del x h2
        · rw [Nat.min_eq_right d, Nat.add_comm]; exact .ins y h3
theorem Way.app {a b c d : List Int} {n m : Nat} (h : Way a b n) (h2 : Way c d m) : Way (a ++ c) (b ++ d) (n + m) := by
  induction h with
  | nil => simpa using h2
  | keep x _ ih => exact .keep x ih
  | rep x y _ ih => rw [Nat.add_right_comm]; exact .rep x y ih
  | del x _ ih => rw [Nat.add_right_comm]; exact .del x ih
  | ins y _ ih => rw [Nat.add_right_comm]; exact .ins y ih
theorem Way.rev {a b : List Int} {n : Nat} (h : Way a b n) : Way a.reverse b.reverse n := by
  induction h with
  | nil => exact .nil
  | keep x _ ih => simpa using ih.app (.keep x .nil)
  | rep x y _ ih => simpa using ih.app (.rep x y .nil)
  | del x _ ih => simpa using ih.app (.del x .nil)
  | ins y _ ih => simpa using ih.app (.ins y .nil)
theorem ld_rev (a b : List Int) : ld a.reverse b.reverse = ld a b := by
  have h1 := (Way.best _ a b (Nat.le_refl _)).rev.le
  have h2 := (Way.best _ a.reverse b.reverse (Nat.le_refl _)).rev.le
  simp only [List.reverse_reverse] at h2
  omega
end Go.Proofs.YtgcmhhcopeiomaaGreat.Ab
