/- Plain laws on the loops of the plain language. Conditions: none. -/
import Derived.Test.YthjinjinnklkgaaAb29
namespace Go.Proofs.Ythjinjinnklkgaa.Ab
open Go

/-- Enough fuel for every loop over a list. -/
abbrev FU : Nat := 18446744073709551616
abbrev ML : Nat := 9223372036854775807

theorem wadd1 {i m : Nat} (h : i < m) (hm : m ≤ ML) : IntKind.i64.wrap ((i : Int) + 1) = ((i + 1 : Nat) : Int) := by
  rw [w64 (by omega) (by simp only [ML] at hm; omega)]; rfl
theorem ix_get {α : Type} {l : List α} {i : Nat} (d : α) (h : i < l.length) : ix l (i : Int) = some (l.getD i d) := by
  simp [ix, h]
theorem ix_int {α : Type} {l : List α} {i : Int} (d : α) (h0 : 0 ≤ i) (h : i < l.length) : ix l i = some (l.getD i.toNat d) := by
  have h2 : i.toNat < l.length := by omega
  simp [ix, h0, h2]
theorem ite_bind {α β : Type} {c : Prop} [Decidable c] {a b : Option α} {f : α → Option β} : (if c then a else b).bind f = if c then a.bind f else b.bind f := by
  split <;> rfl

/-- Rounds that go on up to some one, which ends the loop. -/
theorem iter_to {σ τ : Type} {f : σ → Option (σ ⊕ τ)} {t : τ} (st : Nat → σ) : ∀ (m n : Nat) (s0 : σ), (∀ j, j < m → f (st j) = some (.inl (st (j + 1)))) → f (st m) = some (.inr t) → m < n → s0 = st 0 → iter n f s0 = some t
  | 0, n + 1, s0, _, he, _, h0 => by subst h0; simp [iter, he]
  | m + 1, n + 1, s0, hs, he, hn, h0 => by
    subst h0
    rw [iter, hs 0 (by omega)]
    exact iter_to (fun j => st (j + 1)) m n _ (fun j hj => hs (j + 1) (by omega)) he (by omega) rfl
  | m, 0, s0, _, _, hn, _ => by omega

/-- Rounds over numbers, one after the other, with an end on the way. -/
def foldE {σ τ : Type} (g : Nat → σ → σ ⊕ τ) : Nat → Nat → σ → σ ⊕ τ
  | _, 0, s => .inl s
  | j, k + 1, s => match g j s with
    | .inl s' => foldE g (j + 1) k s'
    | .inr t => .inr t
/-- A loop over numbers is such a fold. -/
theorem iter_foldE {ς σ τ ρ : Type} {f : ς → Option (ς ⊕ ρ)} (I : Nat → σ → Prop) (mk : Nat → σ → ς) (g : Nat → σ → σ ⊕ τ) (e : σ → ρ) (r : τ → ρ) (m : Nat) :
    ∀ (k j n : Nat) (s : σ) (s0 : ς), j + k = m → (∀ j s, j < m → I j s → f (mk j s) = some (match g j s with | .inl s' => .inl (mk (j + 1) s') | .inr t => .inr (r t))) → (∀ j s s', j < m → I j s → g j s = .inl s' → I (j + 1) s') →
    (∀ s, I m s → f (mk m s) = some (.inr (e s))) → k < n → s0 = mk j s → I j s → iter n f s0 = some (Sum.elim e r (foldE g j k s))
  | 0, j, n + 1, s, s0, hjk, _, _, he, _, h0, hI => by
    obtain rfl : j = m := by omega
    subst h0; simp [iter, he s hI, foldE]
  | k + 1, j, n + 1, s, s0, hjk, hf, hi, he, hn, h0, hI => by
    subst h0
    rw [iter, hf j s (by omega) hI, foldE]
    cases hg : g j s with
    | inl s' => exact iter_foldE I mk g e r m k (j + 1) n s' _ (by omega) hf hi he (by omega) rfl (hi j s s' (by omega) hI hg)
    | inr t => rfl
  | k, j, 0, s, s0, _, _, _, _, hn, _, _ => by omega

/-- A loop with a state and no end on the way. -/
def foldN {σ : Type} (g : Nat → σ → σ) : Nat → Nat → σ → σ
  | _, 0, s => s
  | j, k + 1, s => foldN g (j + 1) k (g j s)
theorem iter_foldN {ς σ ρ : Type} {f : ς → Option (ς ⊕ ρ)} (I : Nat → σ → Prop) (mk : Nat → σ → ς) (g : Nat → σ → σ) (e : σ → ρ) (m : Nat) :
    ∀ (k j n : Nat) (s : σ) (s0 : ς), j + k = m → (∀ j s, j < m → I j s → f (mk j s) = some (.inl (mk (j + 1) (g j s)))) → (∀ j s, j < m → I j s → I (j + 1) (g j s)) →
    (∀ s, I m s → f (mk m s) = some (.inr (e s))) → k < n → s0 = mk j s → I j s → iter n f s0 = some (e (foldN g j k s)) ∧ I m (foldN g j k s)
  | 0, j, n + 1, s, s0, hjk, _, _, he, _, h0, hI => by
    obtain rfl : j = m := by omega
    subst h0; simp [iter, he s hI, foldN, hI]
  | k + 1, j, n + 1, s, s0, hjk, hf, hi, he, hn, h0, hI => by
    subst h0
    rw [iter, hf j s (by omega) hI, foldN]
    exact iter_foldN I mk g e m k (j + 1) n _ _ (by omega) hf hi he (by omega) rfl (hi j s (by omega) hI)
  | k, j, 0, s, s0, _, _, _, _, hn, _, _ => by omega

/-- Whether some number below has a property: a loop that looks for it. -/
theorem iter_scan {ρ : Type} {f : Int → Option (Int ⊕ ρ)} (m : Nat) (bad : Nat → Bool) (tb : Nat → ρ) (te : ρ) : ∀ (k j n : Nat) (s0 : Int), j + k = m →
    (∀ j, j < m → f (j : Int) = some (if bad j = true then .inr (tb j) else .inl ((j + 1 : Nat) : Int))) → f (m : Int) = some (.inr te) → k < n → s0 = (j : Int) →
    (∃ i, j ≤ i ∧ i < m ∧ bad i = true ∧ (∀ h, j ≤ h → h < i → bad h = false) ∧ iter n f s0 = some (tb i)) ∨ ((∀ i, j ≤ i → i < m → bad i = false) ∧ iter n f s0 = some te)
  | 0, j, n + 1, s0, hjk, _, he, _, h0 => by
    obtain rfl : j = m := by omega
    subst h0; exact .inr ⟨fun i h1 h2 => by omega, by simp [iter, he]⟩
  | k + 1, j, n + 1, s0, hjk, hf, he, hn, h0 => by
    subst h0
    rw [iter, hf j (by omega)]
    cases hb : bad j with
    | true => exact .inl ⟨j, by omega, by omega, hb, fun h h1 h2 => by omega, rfl⟩
    | false =>
      rcases iter_scan m bad tb te k (j + 1) n _ (by omega) hf he (by omega) rfl with ⟨i, h1, h2, h3, h4, h5⟩ | ⟨h1, h2⟩
      · exact .inl ⟨i, by omega, h2, h3, fun h q1 q2 => if hh : h = j then hh ▸ hb else h4 h (by omega) q2, h5⟩
      · exact .inr ⟨fun i q1 q2 => if hh : i = j then hh ▸ hb else h1 i (by omega) q2, h2⟩
  | k, j, 0, s0, _, _, _, hn, _ => by omega
def anyN (m : Nat) (p : Nat → Bool) : Bool := (List.range m).any p
theorem anyN_t {m : Nat} {p : Nat → Bool} : anyN m p = true ↔ ∃ i, i < m ∧ p i = true := by simp [anyN]
theorem anyN_f {m : Nat} {p : Nat → Bool} : anyN m p = false ↔ ∀ i, i < m → p i = false := by simp [anyN]
/-- The same where what comes out does not tell the place. -/
theorem iter_any {ρ : Type} {f : Int → Option (Int ⊕ ρ)} (m n : Nat) (bad : Nat → Bool) (tb te : ρ)
    (hf : ∀ j, j < m → f (j : Int) = some (if bad j = true then .inr tb else .inl ((j + 1 : Nat) : Int))) (he : f (m : Int) = some (.inr te)) (hn : m < n) :
    iter n f 0 = some (if anyN m bad = true then tb else te) := by
  rcases iter_scan m bad (fun _ => tb) te m 0 n 0 (by omega) hf he hn rfl with ⟨i, _, h2, h3, _, h5⟩ | ⟨h1, h2⟩
  · rw [h5, if_pos (anyN_t.2 ⟨i, h2, h3⟩)]
  · rw [h2, if_neg (by rw [anyN_f.2 (fun i hi => h1 i (by omega) hi)]; decide)]
theorem anyN_getD {α : Type} (l : List α) (d : α) (p : α → Bool) : anyN l.length (fun i => p (l.getD i d)) = l.any p := by
  rw [Bool.eq_iff_iff, anyN_t, List.any_eq_true]
  constructor
  · rintro ⟨i, h, hp⟩; exact ⟨l.getD i d, by simp [h], hp⟩
  · rintro ⟨x, hx, hp⟩
    obtain ⟨i, h, rfl⟩ := List.getElem_of_mem hx
    exact ⟨i, h, by simpa [h] using hp⟩
/-- A fold whose end on the way is the same everywhere. -/
theorem foldE_ok {σ τ : Type} {g : Nat → σ → σ ⊕ τ} {ok : Nat → Bool} {h : Nat → σ → σ} {c : τ} : ∀ (k j : Nat) (s : σ), (∀ i s, j ≤ i → i < j + k → g i s = if ok i = true then .inl (h i s) else .inr c) →
    ((∀ i, j ≤ i → i < j + k → ok i = true) ∧ foldE g j k s = .inl (foldN h j k s)) ∨ ((∃ i, j ≤ i ∧ i < j + k ∧ ok i = false) ∧ foldE g j k s = .inr c)
  | 0, j, s, _ => .inl ⟨fun i h1 h2 => by omega, rfl⟩
  | k + 1, j, s, hg => by
    cases hk : ok j with
    | false => exact .inr ⟨⟨j, by omega, by omega, hk⟩, by rw [foldE, hg j s (by omega) (by omega), if_neg (by rw [hk]; decide)]⟩
    | true =>
      rw [foldE, hg j s (by omega) (by omega), if_pos hk]
      rcases foldE_ok k (j + 1) (h j s) (fun i s h1 h2 => hg i s (by omega) (by omega)) with ⟨h1, h2⟩ | ⟨⟨i, h1, h2, h3⟩, h4⟩
      · exact .inl ⟨fun i q1 q2 => if hh : i = j then hh ▸ hk else h1 i (by omega) (by omega), h2⟩
      · exact .inr ⟨⟨i, by omega, by omega, h3⟩, h4⟩
/-- Two folds go side by side. -/
theorem foldE_rel {σ σ' τ τ' : Type} (R : Nat → σ → σ' → Prop) (T : τ → τ' → Prop) {g : Nat → σ → σ ⊕ τ} {h : Nat → σ' → σ' ⊕ τ'} : ∀ (k j : Nat) (s : σ) (s' : σ'),
    (∀ i s s', j ≤ i → i < j + k → R i s s' → (∃ u u', g i s = .inl u ∧ h i s' = .inl u' ∧ R (i + 1) u u') ∨ (∃ t t', g i s = .inr t ∧ h i s' = .inr t' ∧ T t t')) → R j s s' →
    (∃ u u', foldE g j k s = .inl u ∧ foldE h j k s' = .inl u' ∧ R (j + k) u u') ∨ (∃ t t', foldE g j k s = .inr t ∧ foldE h j k s' = .inr t' ∧ T t t')
  | 0, j, s, s', _, hR => .inl ⟨s, s', rfl, rfl, hR⟩
  | k + 1, j, s, s', hh, hR => by
    rcases hh j s s' (by omega) (by omega) hR with ⟨u, u', h1, h2, h3⟩ | ⟨t, t', h1, h2, h3⟩
    · rw [foldE, foldE, h1, h2]
      have := foldE_rel R T k (j + 1) u u' (fun i s s' q1 q2 => hh i s s' (by omega) (by omega)) h3
      rw [show j + 1 + k = j + (k + 1) by omega] at this; exact this
    · exact .inr ⟨t, t', by rw [foldE, h1], by rw [foldE, h2], h3⟩
theorem getD_set {α : Type} (l : List α) (i j : Nat) (x d : α) (h : i < l.length) : (l.set i x).getD j d = if i = j then x else l.getD j d := by
  simp only [List.getD_eq_getElem?_getD, List.getElem?_set]
  split
  · simp [h]
  · rfl

/-- A loop with a state whose end on the way is the same everywhere. -/
theorem iter_ok {ς σ ρ : Type} {f : ς → Option (ς ⊕ ρ)} (mk : Nat → σ → ς) (ok : Nat → Bool) (h : Nat → σ → σ) (e : σ → ρ) (c : ρ) (m n : Nat) (s : σ) (s0 : ς)
    (hf : ∀ j s, j < m → f (mk j s) = some (if ok j = true then .inl (mk (j + 1) (h j s)) else .inr c)) (he : ∀ s, f (mk m s) = some (.inr (e s))) (hn : m < n) (h0 : s0 = mk 0 s) :
    iter n f s0 = some (if anyN m (fun j => !ok j) = true then c else e (foldN h 0 m s)) := by
  rw [iter_foldE (fun _ _ => True) mk (fun j s => if ok j = true then .inl (h j s) else .inr ()) e (fun _ => c) m m 0 n s s0 (by omega)
    (fun j s hj _ => by rw [hf j s hj]; cases ok j <;> rfl) (fun _ _ _ _ _ _ => trivial) (fun s _ => he s) hn h0 trivial]
  rcases foldE_ok (g := fun j s => if ok j = true then .inl (h j s) else .inr ()) (ok := ok) (h := h) (c := ()) m 0 s (fun _ _ _ _ => rfl) with ⟨h1, h2⟩ | ⟨⟨i, h1, h2, h3⟩, h4⟩
  · rw [h2, anyN_f.2 (fun i hi => by rw [h1 i (by omega) (by omega)]; rfl)]; rfl
  · rw [h4, anyN_t.2 ⟨i, by omega, by rw [h3]; rfl⟩]; rfl

/-- slices.ContainsFunc -/
theorem contains_loop {α : Type} (n : Nat) (l : List α) (p2 : α → Option Bool) (P : α → Bool) (hp : ∀ x ∈ l, p2 x = some (P x)) (hl : l.length ≤ ML) (hn : l.length < n) :
    ((iter n (fun s3 : Int => if (decide (s3 < (l.length : Int))) = true then
        (ix l s3).bind fun v4 => (p2 v4).bind fun v5 => if v5 = true then some (.inr (.inl s3)) else some (.inl (IntKind.i64.wrap (s3 + (1 : Int))))
      else (some (.inr (.inr ())) : Option (Int ⊕ (Int ⊕ Unit)))) (0 : Int)).bind fun t3 => match t3 with
      | (.inl u4) => some u4
      | (.inr u5) => (some (-1 : Int) : Option Int)).bind (fun v3 => some (decide ((0 : Int) ≤ v3))) = some (l.any P) := by
  cases l with
  | nil =>
    cases n with
    | zero => simp at hn
    | succ n => simp [iter]
  | cons d0 l0 =>
    generalize hL : d0 :: l0 = l at *
    rcases iter_scan (ρ := Int ⊕ Unit) l.length (fun i => P (l.getD i d0)) (fun i => .inl (i : Int)) (.inr ()) l.length 0 n 0 (by omega)
      (f := fun s3 : Int => if (decide (s3 < (l.length : Int))) = true then
        (ix l s3).bind fun v4 => (p2 v4).bind fun v5 => if v5 = true then some (.inr (.inl s3)) else some (.inl (IntKind.i64.wrap (s3 + (1 : Int))))
      else (some (.inr (.inr ())) : Option (Int ⊕ (Int ⊕ Unit))))
      (fun j hj => by
        have hmem : l.getD j d0 ∈ l := by simp [hj]
        simp only [show ((j : Int) < (l.length : Int)) from by omega, decide_true, if_true, ix_get d0 hj, Option.bind_some, hp _ hmem, wadd1 hj hl]
        split <;> rfl)
      (by simp) hn rfl with ⟨i, _, h2, h3, _, h5⟩ | ⟨h1, h2⟩
    · rw [h5]
      simp only [Option.bind_some]
      rw [decide_eq_true (by omega), ← anyN_getD l d0 P, anyN_t.2 ⟨i, h2, h3⟩]
    · rw [h2]
      simp only [Option.bind_some]
      rw [← anyN_getD l d0 P, anyN_f.2 (fun i hi => h1 i (by omega) hi)]; rfl
theorem app_one {α : Type} {b : Nat} {l : List α} {x : α} (h : (l.length + 1) * b ≤ 140737488355328) (hb : l.length + 1 ≤ 4611686018427387904) : app b l [x] = some (l ++ [x]) := by
  unfold app; rw [if_pos ⟨h, hb⟩]
theorem app_eq {α : Type} {b : Nat} {l l' : List α} (h : (l.length + l'.length) * b ≤ 140737488355328) (hb : l.length + l'.length ≤ 4611686018427387904) : app b l l' = some (l ++ l') := by
  unfold app; rw [if_pos ⟨h, hb⟩]
end Go.Proofs.Ythjinjinnklkgaa.Ab
