/- Plain laws on the loops of the plain language. Conditions: none. -/
import Derived.Test.YtkdefjliknpliaaGreatDoorAb29
namespace Go.Proofs.YtkdefjliknpliaaGreatDoor.Ab
open Go
abbrev FU : Nat := 18446744073709551616
abbrev ML : Nat := 9223372036854775807
theorem wadd1 {i m : Nat} (h : i < m) (hm : m ≤ ML) : IntKind.i64.wrap ((i : Int) + 1) = ((i + 1 : Nat) : Int) := by
  rw [w64 (by omega) (by simp only [ML] at hm; omega)]; rfl
theorem ix_get {α : Type} {l : List α} {i : Nat} (d : α) (h : i < l.length) : ix l (i : Int) = some (l.getD i d) := by
  simp [ix, h]
theorem ixS_get {l : List UInt8} {i : Nat} (h : i < l.length) : ixS l (i : Int) = some ((l.getD i 0).toNat : Int) := by
  simp [ixS, h]
theorem ix_int {α : Type} {l : List α} {i : Int} (d : α) (h0 : 0 ≤ i) (h : i < l.length) : ix l i = some (l.getD i.toNat d) := by
  have h2 : i.toNat < l.length := by omega
  simp [ix, h0, h2]
theorem iter_to {σ τ : Type} {f : σ → Option (σ ⊕ τ)} {t : τ} (st : Nat → σ) : ∀ (m n : Nat) (s0 : σ), (∀ j, j < m → f (st j) = some (.inl (st (j + 1)))) → f (st m) = some (.inr t) → m < n → s0 = st 0 → iter n f s0 = some t
  | 0, n + 1, s0, _, he, _, h0 => by subst h0; simp [iter, he]
  | m + 1, n + 1, s0, hs, he, hn, h0 => by
    subst h0
    rw [iter, hs 0 (by omega)]
    exact iter_to (fun j => st (j + 1)) m n _ (fun j hj => hs (j + 1) (by omega)) he (by omega) rfl
  | m, 0, s0, _, _, hn, _ => by omega
theorem iter_scan {ρ : Type} {f : Int → Option (Int ⊕ ρ)} (m : Nat) (bad : Nat → Bool) (tb : Nat → ρ) (te : ρ) : ∀ (k j n : Nat) (s0 : Int), j + k = m →
    (∀ j, j < m → f (j : Int) = some (if bad j = true then .inr (tb j) else .inl ((j + 1 : Nat) : Int))) → f (m : Int) = some (.inr te) → k < n → s0 = (j : Int) →
    (∃ i, j ≤ i ∧ i < m ∧ bad i = true ∧ (∀ h, j ≤ h → h < i → bad h = false) ∧ iter n f s0 = some (tb i)) ∨ ((∀ i, j ≤ i → i < m → bad i = false) ∧ iter n f s0 = some te)
  | 0, j, n + 1, s0, hjk, _, he, _, h0 => by
    obtain rfl : j = m := by omega
    subst h0; exact .inr ⟨fun i h1 h2 => by omega, by simp [iter, he]⟩
  | k + 1, j, n + 1, s0, hjk, hf, he, hn, h0 => by
    subst h0
    rw [iter, hf j (by omega)]
    cases hb : bad j with
    | true => exact .inl ⟨j, by omega, by omega, hb, fun h h1 h2 => by omega, rfl⟩
    | false =>
      rcases iter_scan m bad tb te k (j + 1) n _ (by omega) hf he (by omega) rfl with ⟨i, h1, h2, h3, h4, h5⟩ | ⟨h1, h2⟩
      · exact .inl ⟨i, by omega, h2, h3, fun h q1 q2 => if hh : h = j then hh ▸ hb else h4 h (by omega) q2, h5⟩
      · exact .inr ⟨fun i q1 q2 => if hh : i = j then hh ▸ hb else h1 i (by omega) q2, h2⟩
  | k, j, 0, s0, _, _, _, hn, _ => by omega
def anyN (m : Nat) (p : Nat → Bool) : Bool := (List.range m).any p
theorem anyN_t {m : Nat} {p : Nat → Bool} : anyN m p = true ↔ ∃ i, i < m ∧ p i = true := by simp [anyN]
theorem anyN_f {m : Nat} {p : Nat → Bool} : anyN m p = false ↔ ∀ i, i < m → p i = false := by simp [anyN]
theorem iter_any {ρ : Type} {f : Int → Option (Int ⊕ ρ)} (m n : Nat) (bad : Nat → Bool) (tb te : ρ)
    (hf : ∀ j, j < m → f (j : Int) = some (if bad j = true then .inr tb else .inl ((j + 1 : Nat) : Int))) (he : f (m : Int) = some (.inr te)) (hn : m < n) :
    iter n f 0 = some (if anyN m bad = true then tb else te) := by
  rcases iter_scan m bad (fun _ => tb) te m 0 n 0 (by omega) hf he hn rfl with ⟨i, _, h2, h3, _, h5⟩ | ⟨h1, h2⟩
  · rw [h5, if_pos (anyN_t.2 ⟨i, h2, h3⟩)]
  · rw [h2, if_neg (by rw [anyN_f.2 (fun i hi => h1 i (by omega) hi)]; decide)]
theorem anyN_getD {α : Type} (l : List α) (d : α) (p : α → Bool) : anyN l.length (fun i => p (l.getD i d)) = l.any p := by
  rw [Bool.eq_iff_iff, anyN_t, List.any_eq_true]
  constructor
  · rintro ⟨i, h, hp⟩; exact ⟨l.getD i d, by simp [h], hp⟩
  · rintro ⟨x, hx, hp⟩
    obtain ⟨i, h, rfl⟩ := List.getElem_of_mem hx
    exact ⟨i, h, by simpa [h] using hp⟩
theorem contains_loop {α : Type} (n : Nat) (l : List α) (p2 : α → Option Bool) (P : α → Bool) (hp : ∀ x ∈ l, p2 x = some (P x)) (hl : l.length ≤ ML) (hn : l.length < n) :
    ((iter n (fun s3 : Int => if (decide (s3 < (l.length : Int))) = true then
        (ix l s3).bind fun v4 => (p2 v4).bind fun v5 => if v5 = true then some (.inr (.inl s3)) else some (.inl (IntKind.i64.wrap (s3 + (1 : Int))))
      else (some (.inr (.inr ())) : Option (Int ⊕ (Int ⊕ Unit)))) (0 : Int)).bind fun t3 => match t3 with
      | (.inl u4) => some u4
      | (.inr u5) => (some (-1 : Int) : Option Int)).bind (fun v3 => some (decide ((0 : Int) ≤ v3))) = some (l.any P) := by
  cases l with
  | nil =>
    cases n with
    | zero => simp at hn
    | succ n => simp [iter]
  | cons d0 l0 =>
    generalize hL : d0 :: l0 = l at *
    rcases iter_scan (ρ := Int ⊕ Unit) l.length (fun i => P (l.getD i d0)) (fun i => .inl (i : Int)) (.inr ()) l.length 0 n 0 (by omega)
      (f := fun s3 : Int => if (decide (s3 < (l.length : Int))) = true then
        (ix l s3).bind fun v4 => (p2 v4).bind fun v5 => if v5 = true then some (.inr (.inl s3)) else some (.inl (IntKind.i64.wrap (s3 + (1 : Int))))
      else (some (.inr (.inr ())) : Option (Int ⊕ (Int ⊕ Unit))))
      (fun j hj => by
        have hmem : l.getD j d0 ∈ l := by simp [hj]
        simp only [show ((j : Int) < (l.length : Int)) from by omega, decide_true, if_true, ix_get d0 hj, Option.bind_some, hp _ hmem, wadd1 hj hl]
        split <;> rfl)
      (by simp) hn rfl with ⟨i, _, h2, h3, _, h5⟩ | ⟨h1, h2⟩
    · rw [h5]
      simp only [Option.bind_some]
      rw [decide_eq_true (by omega), ← anyN_getD l d0 P, anyN_t.2 ⟨i, h2, h3⟩]
    · rw [h2]
      simp only [Option.bind_some]
      rw [← anyN_getD l d0 P, anyN_f.2 (fun i hi => h1 i (by omega) hi)]; rfl
theorem app_one {α : Type} {b : Nat} {l : List α} {x : α} (h : (l.length + 1) * b ≤ 140737488355328) (hb : l.length + 1 ≤ 4611686018427387904) : app b l [x] = some (l ++ [x]) := by
  unfold app; rw [if_pos ⟨h, hb⟩]
theorem app_eq {α : Type} {b : Nat} {l l' : List α} (h : (l.length + l'.length) * b ≤ 140737488355328) (hb : l.length + l'.length ≤ 4611686018427387904) : app b l l' = some (l ++ l') := by
  unfold app; rw [if_pos ⟨h, hb⟩]
end Go.Proofs.YtkdefjliknpliaaGreatDoor.Ab
