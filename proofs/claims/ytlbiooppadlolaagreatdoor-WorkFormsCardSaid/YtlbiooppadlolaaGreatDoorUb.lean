/- Plain laws on the loops of the plain language. slices.Compact in plain Lean: equal neighbours are left out. Loops, lists in order, lists that are the same, in plain Lean. When a work is valid, both ways. Conditions: none. -/
import Derived.Test.YtlbiooppadlolaaGreatDoorAb34
import Derived.Test.YtlbiooppadlolaaGreatDoorMi
import Derived.Test.YtlbiooppadlolaaGreatDoorAb40
section
namespace Go.Proofs.YtlbiooppadlolaaGreatDoor.Ab
open Go

/-- Enough fuel for every loop over a list. -/
abbrev FU : Nat := 18446744073709551616
abbrev ML : Nat := 9223372036854775807

theorem wadd1 {i m : Nat} (h : i < m) (hm : m ≤ ML) : IntKind.i64.wrap ((i : Int) + 1) = ((i + 1 : Nat) : Int) := by
  rw [w64 (by omega) (by simp only [ML] at hm; omega)]; rfl
theorem ix_get {α : Type} {l : List α} {i : Nat} (d : α) (h : i < l.length) : ix l (i : Int) = some (l.getD i d) := by
  simp [ix, h]
/-- Rounds that go on up to some one, which ends the loop. -/
theorem iter_to {σ τ : Type} {f : σ → Option (σ ⊕ τ)} {t : τ} (st : Nat → σ) : ∀ (m n : Nat) (s0 : σ), (∀ j, j < m → f (st j) = some (.inl (st (j + 1)))) → f (st m) = some (.inr t) → m < n → s0 = st 0 → iter n f s0 = some t
  | 0, n + 1, s0, _, he, _, h0 => by subst h0; simp [iter, he]
  | m + 1, n + 1, s0, hs, he, hn, h0 => by
    subst h0
    rw [iter, hs 0 (by omega)]
    exact iter_to (fun j => st (j + 1)) m n _ (fun j hj => hs (j + 1) (by omega)) he (by omega) rfl
  | m, 0, s0, _, _, hn, _ => by omega

/-- Whether some number below has a property: a loop that looks for it. -/
theorem iter_scan {ρ : Type} {f : Int → Option (Int ⊕ ρ)} (m : Nat) (bad : Nat → Bool) (tb : Nat → ρ) (te : ρ) : ∀ (k j n : Nat) (s0 : Int), j + k = m →
    (∀ j, j < m → f (j : Int) = some (if bad j = true then .inr (tb j) else .inl ((j + 1 : Nat) : Int))) → f (m : Int) = some (.inr te) → k < n → s0 = (j : Int) →
    (∃ i, j ≤ i ∧ i < m ∧ bad i = true ∧ (∀ h, j ≤ h → h < i → bad h = false) ∧ iter n f s0 = some (tb i)) ∨ ((∀ i, j ≤ i → i < m → bad i = false) ∧ iter n f s0 = some te)
  | 0, j, n + 1, s0, hjk, _, he, _, h0 => by
    obtain rfl : j = m := by omega
    subst h0; exact .inr ⟨fun i h1 h2 => by omega, by simp [iter, he]⟩
  | k + 1, j, n + 1, s0, hjk, hf, he, hn, h0 => by
    subst h0
    rw [iter, hf j (by omega)]
    cases hb : bad j with
    | true => exact .inl ⟨j, by omega, by omega, hb, fun h h1 h2 => by omega, rfl⟩
    | false =>
      rcases iter_scan m bad tb te k (j + 1) n _ (by omega) hf he (by omega) rfl with ⟨i, h1, h2, h3, h4, h5⟩ | ⟨h1, h2⟩
      · exact .inl ⟨i, by omega, h2, h3, fun h q1 q2 => if hh : h = j then hh ▸ hb else h4 h (by omega) q2, h5⟩
      · exact .inr ⟨fun i q1 q2 => if hh : i = j then hh ▸ hb else h1 i (by omega) q2, h2⟩
  | k, j, 0, s0, _, _, _, hn, _ => by omega
def anyN (m : Nat) (p : Nat → Bool) : Bool := (List.range m).any p
theorem anyN_t {m : Nat} {p : Nat → Bool} : anyN m p = true ↔ ∃ i, i < m ∧ p i = true := by simp [anyN]
theorem anyN_f {m : Nat} {p : Nat → Bool} : anyN m p = false ↔ ∀ i, i < m → p i = false := by simp [anyN]
/-- The same where what comes out does not tell the place. -/
theorem iter_any {ρ : Type} {f : Int → Option (Int ⊕ ρ)} (m n : Nat) (bad : Nat → Bool) (tb te : ρ)
    (hf : ∀ j, j < m → f (j : Int) = some (if bad j = true then .inr tb else .inl ((j + 1 : Nat) : Int))) (he : f (m : Int) = some (.inr te)) (hn : m < n) :
    iter n f 0 = some (if anyN m bad = true then tb else te) := by
  rcases iter_scan m bad (fun _ => tb) te m 0 n 0 (by omega) hf he hn rfl with ⟨i, _, h2, h3, _, h5⟩ | ⟨h1, h2⟩
  · rw [h5, if_pos (anyN_t.2 ⟨i, h2, h3⟩)]
  · rw [h2, if_neg (by rw [anyN_f.2 (fun i hi => h1 i (by omega) hi)]; decide)]
theorem anyN_getD {α : Type} (l : List α) (d : α) (p : α → Bool) : anyN l.length (fun i => p (l.getD i d)) = l.any p := by
  rw [Bool.eq_iff_iff, anyN_t, List.any_eq_true]
  constructor
  · rintro ⟨i, h, hp⟩; exact ⟨l.getD i d, by simp [h], hp⟩
  · rintro ⟨x, hx, hp⟩
    obtain ⟨i, h, rfl⟩ := List.getElem_of_mem hx
    exact ⟨i, h, by simpa [h] using hp⟩
theorem app_one {α : Type} {b : Nat} {l : List α} {x : α} (h : (l.length + 1) * b ≤ 140737488355328) (hb : l.length + 1 ≤ 4611686018427387904) : app b l [x] = some (l ++ [x]) := by
  unfold app; rw [if_pos ⟨h, hb⟩]
theorem app_eq {α : Type} {b : Nat} {l l' : List α} (h : (l.length + l'.length) * b ≤ 140737488355328) (hb : l.length + l'.length ≤ 4611686018427387904) : app b l l' = some (l ++ l') := by
  unfold app; rw [if_pos ⟨h, hb⟩]
end Go.Proofs.YtlbiooppadlolaaGreatDoor.Ab
end
section
namespace Go.Proofs.YtlbiooppadlolaaGreatDoor.Ab
open Go
section
variable {α : Type} [DecidableEq α]
def cpL2 (s2 : Int) (v7 : List α) (s8 : Int) (s9 : Int) (s10 : List α) : Option ((Int × Int × List α) ⊕ (Int × List α)) :=
  if (decide (s9 < (v7.length : Int))) = true then
    (
      (ix v7 s9).bind fun _ =>
      (ix s10 (s2 + s9)).bind fun v12 =>
      (ix v7 (IntKind.i64.wrap (s9 - (1 : Int)))).bind fun _ =>
      (ix s10 (s2 + (IntKind.i64.wrap (s9 - (1 : Int))))).bind fun v14 =>
      if (!decide (v12 = v14)) = true then
        (ix v7 s9).bind fun _ =>
        (ix s10 (s2 + s9)).bind fun v16 =>
        (ix s10 s8).bind fun _ =>
        (setI s10 s8 v16).bind fun v18 =>
        some ((IntKind.i64.wrap (s8 + (1 : Int))), v18)
      else
      some (s8, s10) : Option (Int × (List α))).bind fun t19 =>
    some (.inl (t19.1, (IntKind.i64.wrap (s9 + (1 : Int))), t19.2))
  else
  some (.inr (s8, s10))
def cpL1 (n : Nat) (z : α) (c1 : List α) (s2 : Int) : Option (Int ⊕ (List α ⊕ Unit)) :=
  if (decide (s2 < (c1.length : Int))) = true then
    (ix c1 s2).bind fun _ =>
    (ix c1 s2).bind fun v4 =>
    (ix c1 (IntKind.i64.wrap (s2 - (1 : Int)))).bind fun _ =>
    (ix c1 (IntKind.i64.wrap (s2 - (1 : Int)))).bind fun v6 =>
    if (decide (v4 = v6)) = true then
      (slc c1 s2 (c1.length : Int)).bind fun v7 =>
      (iter n (fun s => cpL2 s2 v7 s.1 s.2.1 s.2.2) (s2, (1 : Int), c1)).bind fun t8 =>
      (slc t8.2 t8.1 (t8.2.length : Int)).bind fun v9 =>
      (slc (clrL t8.2 t8.1.toNat v9.length z) (0 : Int) t8.1).bind fun v10 =>
      some (.inr (.inl v10))
    else
    some (.inl (IntKind.i64.wrap (s2 + (1 : Int))))
  else
  some (.inr (.inr ()))
def cpM (n : Nat) (z : α) (c1 : List α) : Option (List α) :=
  if (decide ((c1.length : Int) < (2 : Int))) = true then
    some c1
  else
  (iter n (fun s => cpL1 n z c1 s) (1 : Int)).bind fun t2 => match t2 with
  | (.inl u3) =>
    some u3
  | (.inr _) =>
    some c1
/-- Without equal neighbours. -/
def cmpct : List α → List α
  | [] => []
  | x :: l => if l.head? = some x then cmpct l else x :: cmpct l
theorem cmpct_snoc (x : α) : ∀ l : List α, cmpct (l ++ [x]) = if l.getLast? = some x then cmpct l else cmpct l ++ [x]
  | [] => by simp [cmpct]
  | [y] => by
    by_cases h : y = x
    · subst h; simp [cmpct]
    · have h' : ¬ x = y := fun e => h e.symm
      simp [cmpct, h, h']
  | y :: z :: l => by
    have ih := cmpct_snoc x (z :: l)
    rw [List.cons_append, cmpct, ih]
    have e1 : (z :: l ++ [x]).head? = some z := rfl
    have e2 : (y :: z :: l).getLast? = (z :: l).getLast? := by simp [List.getLast?_cons_cons]
    rw [e1, e2]
    have e3 : cmpct (y :: z :: l) = if some z = some y then cmpct (z :: l) else y :: cmpct (z :: l) := rfl
    rw [e3]
    split <;> split <;> rfl
theorem cmpct_id : ∀ {c : List α}, (∀ i, i + 1 < c.length → c[i + 1]? ≠ c[i]?) → cmpct c = c
  | [], _ => rfl
  | [x], _ => by simp [cmpct]
  | x :: y :: l, h => by
    have h0 := h 0 (by simp)
    have ih := cmpct_id (c := y :: l) (fun i hi => by
      have := h (i + 1) (by simpa using hi)
      simpa using this)
    rw [cmpct, ih, if_neg]
    intro e
    apply h0
    simpa using e
omit [DecidableEq α] in
theorem ixn {l : List α} {i : Nat} : ix l (i : Int) = l[i]? := by simp [ix]
theorem cmpct_len : ∀ c : List α, (cmpct c).length ≤ c.length
  | [] => Nat.le_refl _
  | x :: l => by
    have := cmpct_len l
    rw [cmpct]
    split <;> simp <;> omega
theorem cp2 {c : List α} {j : Nat} (hl : c.length ≤ ML) : ∀ (k a b fuel : Nat) (s : List α), j + b + k = c.length → 1 ≤ b → k < fuel → s.length = c.length → a + 1 ≤ j + b → (∀ m, j + b ≤ m + 1 → s[m]? = c[m]?) →
    s.take a = cmpct (c.take (j + b)) → a ≤ c.length →
    ∃ s', iter fuel (fun s => cpL2 (j : Int) (c.drop j) s.1 s.2.1 s.2.2) ((a : Int), (b : Int), s) = some (((cmpct c).length : Int), s') ∧ s'.length = c.length ∧ s'.take (cmpct c).length = cmpct c
  | k, a, b, 0, s, _, _, h, _, _, _, _, _ => by omega
  | 0, a, b, fuel + 1, s, h1, h2, _, h4, h5, h6, h7, h8 => by
    have ha : a = (cmpct c).length := by
      have := congrArg List.length h7
      rw [List.length_take, List.take_of_length_le (by omega)] at this
      omega
    rw [List.take_of_length_le (show c.length ≤ j + b by omega)] at h7
    refine ⟨s, ?_, h4, by rw [← ha]; exact h7⟩
    rw [iter]
    simp only [cpL2]
    rw [if_neg (by simp; omega), ← ha]; rfl
  | k + 1, a, b, fuel + 1, s, h1, h2, h3, h4, h5, h6, h7, h8 => by
    have hc1 : j + b < c.length := by omega
    have hc2 : j + b - 1 < c.length := by omega
    have x1 : ix (c.drop j) (b : Int) = some c[j + b] := by rw [ixn, List.getElem?_drop, List.getElem?_eq_getElem hc1]
    have eb : IntKind.i64.wrap ((b : Int) - 1) = ((b - 1 : Nat) : Int) := by rw [w64 (by omega) (by simp only [ML] at hl; omega)]; omega
    have x2 : ix (c.drop j) ((b - 1 : Nat) : Int) = some c[j + b - 1] := by
      rw [ixn, List.getElem?_drop, show j + (b - 1) = j + b - 1 by omega, List.getElem?_eq_getElem hc2]
    have x3 : ix s ((j : Int) + (b : Int)) = some c[j + b] := by
      rw [show (j : Int) + (b : Int) = ((j + b : Nat) : Int) by omega, ixn, h6 _ (by omega), List.getElem?_eq_getElem hc1]
    have x4 : ix s ((j : Int) + ((b - 1 : Nat) : Int)) = some c[j + b - 1] := by
      rw [show (j : Int) + ((b - 1 : Nat) : Int) = ((j + b - 1 : Nat) : Int) by omega, ixn, h6 _ (by omega), List.getElem?_eq_getElem hc2]
    have et : c.take (j + b + 1) = c.take (j + b) ++ [c[j + b]] := by rw [List.take_add_one, List.getElem?_eq_getElem hc1]; rfl
    have elast : (c.take (j + b)).getLast? = some c[j + b - 1] := by
      rw [List.getLast?_eq_getElem?, List.length_take, Nat.min_eq_left (by omega), List.getElem?_take_of_lt (by omega), List.getElem?_eq_getElem hc2]
    have ew : IntKind.i64.wrap ((b : Int) + 1) = ((b + 1 : Nat) : Int) := by rw [w64 (by omega) (by simp only [ML] at hl; omega)]; rfl
    rw [iter]
    simp only [cpL2]
    rw [if_pos (by simp; omega), eb, x1, Option.bind_some, x3, Option.bind_some, x2, Option.bind_some, x4, Option.bind_some]
    by_cases hx : c[j + b] = c[j + b - 1]
    · rw [if_neg (by simp [hx]), Option.bind_some, Option.bind_some]
      dsimp only
      rw [ew]
      refine cp2 hl k a (b + 1) fuel s (by omega) (by omega) (by omega) h4 (by omega) (fun m hm => h6 m (by omega)) ?_ h8
      rw [← Nat.add_assoc, et, cmpct_snoc, if_pos (by rw [elast, hx]), h7]
    · have ha2 : a < s.length := by omega
      have x5 : ix s (a : Int) = some s[a] := by rw [ixn, List.getElem?_eq_getElem ha2]
      have x6 : setI s (a : Int) c[j + b] = some (s.set a c[j + b]) := by
        unfold setI; rw [if_pos ⟨by omega, by omega⟩]; rfl
      have ea : IntKind.i64.wrap ((a : Int) + 1) = ((a + 1 : Nat) : Int) := by rw [w64 (by omega) (by simp only [ML] at hl; omega)]; rfl
      rw [if_pos (by simp [hx]), x5]
      simp only [Option.bind_some]
      rw [x6]
      simp only [Option.bind_some]
      rw [ew, ea]
      refine cp2 hl k (a + 1) (b + 1) fuel (s.set a c[j + b]) (by omega) (by omega) (by omega) (by simpa using h4) (by omega) (fun m hm => ?_) ?_ (by omega)
      · rw [List.getElem?_set_ne (by omega)]; exact h6 m (by omega)
      · rw [← Nat.add_assoc, et, cmpct_snoc, if_neg (by rw [elast]; intro e; injection e with e; exact hx e.symm), ← h7]
        rw [List.take_add_one, List.getElem?_set_self ha2, List.take_set_of_le (Nat.le_refl _)]
        rfl
theorem cp1 {n : Nat} {z : α} {c : List α} (hl : c.length ≤ ML) (hn : c.length < n) : ∀ (k j fuel : Nat), j + k = c.length → 1 ≤ j → k < fuel → (∀ i, i + 1 < j → c[i + 1]? ≠ c[i]?) →
    ∃ r, iter fuel (fun s => cpL1 n z c s) (j : Int) = some r ∧ Sum.elim id (fun _ => c) r = cmpct c
  | k, j, 0, _, _, h, _ => by omega
  | 0, j, fuel + 1, h1, h2, _, h4 => by
    refine ⟨.inr (), ?_, (cmpct_id (fun i hi => h4 i (by omega))).symm⟩
    rw [iter]
    simp only [cpL1]
    rw [if_neg (by simp; omega)]; rfl
  | k + 1, j, fuel + 1, h1, h2, h3, h4 => by
    have hc1 : j < c.length := by omega
    have hc2 : j - 1 < c.length := by omega
    have x1 : ix c (j : Int) = some c[j] := by rw [ixn, List.getElem?_eq_getElem hc1]
    have eb : IntKind.i64.wrap ((j : Int) - 1) = ((j - 1 : Nat) : Int) := by rw [w64 (by omega) (by simp only [ML] at hl; omega)]; omega
    have x2 : ix c ((j - 1 : Nat) : Int) = some c[j - 1] := by rw [ixn, List.getElem?_eq_getElem hc2]
    rw [iter]
    simp only [cpL1]
    rw [if_pos (by simp; omega), eb, x1, Option.bind_some, Option.bind_some, x2, Option.bind_some, Option.bind_some]
    by_cases hx : c[j] = c[j - 1]
    · have hs : slc c (j : Int) (c.length : Int) = some (c.drop j) := by
        unfold slc; rw [if_pos ⟨by omega, by omega, by omega⟩, Int.toNat_natCast, Int.toNat_natCast, List.take_length]
      have hid : cmpct (c.take j) = c.take j := cmpct_id (fun i hi => by
        rw [List.length_take] at hi
        rw [List.getElem?_take_of_lt (by omega), List.getElem?_take_of_lt (by omega)]
        exact h4 i (by omega))
      have et : c.take (j + 1) = c.take j ++ [c[j]] := by rw [List.take_add_one, List.getElem?_eq_getElem hc1]; rfl
      have elast : (c.take j).getLast? = some c[j - 1] := by
        rw [List.getLast?_eq_getElem?, List.length_take, Nat.min_eq_left (by omega), List.getElem?_take_of_lt (by omega), List.getElem?_eq_getElem hc2]
      obtain ⟨s', g1, g2, g3⟩ := cp2 (c := c) (j := j) hl (c.length - j - 1) j 1 n c (by omega) (by omega) (by omega) rfl (by omega) (fun _ _ => rfl) (by
        rw [et, cmpct_snoc, if_pos (by rw [elast, hx]), hid]) (by omega)
      have hcl := cmpct_len c
      rw [if_pos (by simp [hx]), hs, Option.bind_some, show (1 : Int) = ((1 : Nat) : Int) from rfl, g1, Option.bind_some]
      dsimp only
      have hs2 : slc s' ((cmpct c).length : Int) (s'.length : Int) = some (s'.drop (cmpct c).length) := by
        unfold slc; rw [if_pos ⟨by omega, by omega, by omega⟩, Int.toNat_natCast, Int.toNat_natCast, List.take_length]
      rw [hs2, Option.bind_some]
      have hcl2 : (clrL s' (cmpct c).length (s'.drop (cmpct c).length).length z).length = s'.length := clrL_len (by rw [List.length_drop]; omega)
      have hs3 : slc (clrL s' (cmpct c).length (s'.drop (cmpct c).length).length z) 0 ((cmpct c).length : Int) = some (cmpct c) := by
        unfold slc
        rw [if_pos ⟨by omega, by omega, by omega⟩, Int.toNat_natCast]
        have : (clrL s' (cmpct c).length (s'.drop (cmpct c).length).length z).take (cmpct c).length = cmpct c := by
          unfold clrL
          rw [List.append_assoc, List.take_append_of_le_length (by rw [List.length_take]; omega), List.take_take, Nat.min_self, g3]
        rw [this]; rfl
      rw [Int.toNat_natCast, hs3]
      exact ⟨_, rfl, rfl⟩
    · have ew : IntKind.i64.wrap ((j : Int) + 1) = ((j + 1 : Nat) : Int) := by rw [w64 (by omega) (by simp only [ML] at hl; omega)]; rfl
      rw [if_neg (by simp [hx]), ew, Option.bind_some]
      refine cp1 hl hn k (j + 1) fuel (by omega) (by omega) (by omega) (fun i hi => ?_)
      by_cases hij : i + 1 = j
      · have e2 : i = j - 1 := by omega
        rw [hij, e2, List.getElem?_eq_getElem hc1, List.getElem?_eq_getElem hc2]
        intro e; injection e with e; exact hx e
      · exact h4 i (by omega)
theorem cpM_eq {n : Nat} {z : α} {c : List α} (hl : c.length ≤ ML) (hn : c.length < n) : cpM n z c = some (cmpct c) := by
  unfold cpM
  by_cases h2 : c.length < 2
  · rw [if_pos (by simp; omega), cmpct_id (fun i hi => by omega)]
  · obtain ⟨r, h3, h4⟩ := cp1 (z := z) hl hn (c.length - 1) 1 n (by omega) (by omega) (by omega) (fun i hi => by omega)
    rw [if_neg (by simp; omega), show (1 : Int) = ((1 : Nat) : Int) from rfl, h3, Option.bind_some]
    cases r <;> (rw [← h4]; rfl)
theorem cmpct_mem {x : α} : ∀ {l : List α}, x ∈ cmpct l ↔ x ∈ l
  | [] => Iff.rfl
  | y :: l => by
    have ih := cmpct_mem (x := x) (l := l)
    rw [cmpct]
    split
    · rename_i h
      rw [ih, List.mem_cons]
      constructor
      · exact .inr
      · rintro (e | e)
        · subst e
          cases l with
          | nil => cases h
          | cons z l => injection h with h; rw [h]; exact List.mem_cons_self ..
        · exact e
    · rw [List.mem_cons, List.mem_cons, ih]
/-- A sorted list without equal neighbours ascends. -/
theorem cmpct_asc {lt : α → α → Prop} (ht : ∀ x y z, lt x y → lt y z → lt x z) (htot : ∀ x y, ¬ lt y x → x = y ∨ lt x y) : ∀ {l : List α}, l.Pairwise (fun a b => ¬ lt b a) → (cmpct l).Pairwise lt
  | [], _ => List.Pairwise.nil
  | x :: l, h => by
    have h1 := List.pairwise_cons.1 h
    have ih := cmpct_asc ht htot h1.2
    rw [cmpct]
    split
    · exact ih
    · rename_i hh
      refine List.pairwise_cons.2 ⟨fun y hy => ?_, ih⟩
      cases l with
      | nil => cases hy
      | cons z l =>
        have hz : ¬ z = x := fun e => hh (by rw [e]; rfl)
        have hxz : lt x z := by
          rcases htot _ _ (h1.1 z (List.mem_cons_self ..)) with e | e
          · exact absurd e.symm hz
          · exact e
        rcases List.mem_cons.1 (cmpct_mem.1 hy) with e | e
        · rw [e]; exact hxz
        · rcases htot _ _ ((List.pairwise_cons.1 h1.2).1 y e) with e2 | e2
          · rw [← e2]; exact hxz
          · exact ht _ _ _ hxz e2
omit [DecidableEq α] in
/-- Ascending lists with the same elements are the same. -/
theorem asc_ext {lt : α → α → Prop} (hi : ∀ {x}, ¬ lt x x) (ht : ∀ {x y z}, lt x y → lt y z → lt x z) : ∀ {l k : List α}, l.Pairwise lt → k.Pairwise lt → (∀ x, x ∈ l ↔ x ∈ k) → l = k
  | [], [], _, _, _ => rfl
  | [], y :: k, _, _, h => by have := (h y).2 (List.mem_cons_self ..); cases this
  | x :: l, [], _, _, h => by have := (h x).1 (List.mem_cons_self ..); cases this
  | x :: l, y :: k, hl, hk, h => by
    have h1 := List.pairwise_cons.1 hl
    have h2 := List.pairwise_cons.1 hk
    have e : x = y := by
      rcases List.mem_cons.1 ((h x).1 (List.mem_cons_self ..)) with e | e
      · exact e
      · rcases List.mem_cons.1 ((h y).2 (List.mem_cons_self ..)) with e2 | e2
        · exact e2.symm
        · exact absurd (ht (h1.1 y e2) (h2.1 x e)) hi
    subst e
    rw [asc_ext hi ht h1.2 h2.2 (fun z => ?_)]
    constructor
    · intro hz
      rcases List.mem_cons.1 ((h z).1 (List.mem_cons_of_mem _ hz)) with e | e
      · subst e; exact absurd (h1.1 z hz) hi
      · exact e
    · intro hz
      rcases List.mem_cons.1 ((h z).2 (List.mem_cons_of_mem _ hz)) with e | e
      · subst e; exact absurd (h2.1 z hz) hi
      · exact e
end
end Go.Proofs.YtlbiooppadlolaaGreatDoor.Ab
end
section
namespace Go.Proofs.YtlbiooppadlolaaGreatDoor.Ab.U
open Go

theorem ixL {α : Type} {l : List α} {j : Nat} (h : j < l.length) : ix l (j : Int) = some l[j] := by simp [ix, h]
theorem take_snocL {α : Type} {l : List α} {j : Nat} (h : j < l.length) : l.take (j + 1) = l.take j ++ [l[j]] := by
  rw [List.take_add_one]; simp [h]
theorem wsub1 {j : Nat} (h : 0 < j) (hm : j ≤ ML) : IntKind.i64.wrap ((j : Int) - 1) = ((j - 1 : Nat) : Int) := by
  simp only [ML] at hm
  rw [w64 (by omega) (by omega)]; omega

/-- A loop whose states are known, up to a round that ends it. -/
theorem iter_stG {ς ρ : Type} {f : ς → Option (ς ⊕ ρ)} (st : Nat → ς) (bad : Nat → Bool) (c e : ρ) (m : Nat) (hf : ∀ i, i < m → (∀ h, h < i → bad h = false) → f (st i) = some (if bad i = true then .inr c else .inl (st (i + 1))))
    (he : (∀ h, h < m → bad h = false) → f (st m) = some (.inr e)) : ∀ (k j n : Nat) (s0 : ς), j + k = m → (∀ i, i < j → bad i = false) → k < n → s0 = st j → iter n f s0 = some (if anyN m bad = true then c else e)
  | 0, j, n + 1, s0, hjk, hb, _, h0 => by
    obtain rfl : j = m := by omega
    subst h0
    rw [iter, he hb, anyN_f.2 hb]; rfl
  | k + 1, j, n + 1, s0, hjk, hb, hn, h0 => by
    subst h0
    rw [iter, hf j (by omega) hb]
    cases hj : bad j with
    | true => rw [anyN_t.2 ⟨j, by omega, hj⟩]; rfl
    | false =>
      exact iter_stG st bad c e m hf he k (j + 1) n _ (by omega) (fun i hi => if h : i = j then h ▸ hj else hb i (by omega)) (by omega) rfl
  | k, j, 0, s0, _, _, hn, _ => by omega
theorem iter_st {ς ρ : Type} {f : ς → Option (ς ⊕ ρ)} (st : Nat → ς) (bad : Nat → Bool) (c e : ρ) (m : Nat) {s0 : ς} (h0 : s0 = st 0) (hm : m < FU) (hf : ∀ i, i < m → (∀ h, h < i → bad h = false) → f (st i) = some (if bad i = true then .inr c else .inl (st (i + 1))))
    (he : (∀ h, h < m → bad h = false) → f (st m) = some (.inr e)) : iter FU f s0 = some (if anyN m bad = true then c else e) :=
  iter_stG st bad c e m hf he m 0 FU s0 (by omega) (fun _ h => absurd h (Nat.not_lt_zero _)) hm h0
/-- The same without an end on the way. -/
theorem iter_sm {ς ρ : Type} {f : ς → Option (ς ⊕ ρ)} (st : Nat → ς) (e : ρ) (m : Nat) {s0 : ς} (h0 : s0 = st 0) (hm : m < FU) (hf : ∀ i, i < m → f (st i) = some (.inl (st (i + 1)))) (he : f (st m) = some (.inr e)) : iter FU f s0 = some e :=
  iter_to st m FU s0 hf he hm h0
/-- A search. -/
theorem iter_find {α ρ : Type} [Inhabited α] {f : Int → Option (Int ⊕ ρ)} (l : List α) (p : α → Bool) (t : α → ρ) (te : ρ) (hl : l.length < FU) (hf : ∀ j (h : j < l.length), f (j : Int) = some (if p l[j] = true then .inr (t l[j]) else .inl ((j + 1 : Nat) : Int)))
    (he : f (l.length : Int) = some (.inr te)) : iter FU f 0 = some (match l.find? p with | some x => t x | none => te) := by
  have key : ∀ (k j n : Nat), j + k = l.length → k < n → iter n f (j : Int) = some (match (l.drop j).find? p with | some x => t x | none => te) := by
    intro k
    induction k with
    | zero =>
      intro j n hjk hn
      obtain ⟨n, rfl⟩ : ∃ q, n = q + 1 := ⟨n - 1, by omega⟩
      rw [List.drop_eq_nil_of_le (by omega), iter, show (j : Int) = (l.length : Int) by omega, he]; rfl
    | succ k ih =>
      intro j n hjk hn
      obtain ⟨n, rfl⟩ : ∃ q, n = q + 1 := ⟨n - 1, by omega⟩
      have hj : j < l.length := by omega
      rw [List.drop_eq_getElem_cons hj, iter, hf j hj, List.find?_cons]
      cases hp : p l[j] with
      | true => rfl
      | false => exact ih (j + 1) n (by omega) (by omega)
  exact key l.length 0 FU (by omega) hl

abbrev AscI (l : List Int) : Prop := l.Pairwise (· < ·)
theorem ascI_ext {l k : List Int} (h1 : AscI l) (h2 : AscI k) (h : ∀ y, y ∈ l ↔ y ∈ k) : l = k := asc_ext (lt := fun a b : Int => a < b) (by omega) (fun h h' => by omega) h1 h2 h
theorem asc_nodup {l : List Int} (h : AscI l) : l.Nodup := h.imp (fun hab e => by omega)
theorem sorted_int (l : List Int) : AscI (cmpct (isort intLt l)) := by
  have : (isort intLt l).Pairwise (fun a b => ¬ b < a) := (isort_sorted intLt_swo l).imp (fun {a b} h => by simpa [intLt] using h)
  exact cmpct_asc (lt := fun a b : Int => a < b) (by omega) (by omega) this
theorem sorted_int_mem {l : List Int} {y : Int} : y ∈ cmpct (isort intLt l) ↔ y ∈ l := by rw [cmpct_mem, (isort_perm _ _).mem_iff]
theorem compact_int {c : List Int} (h : c.length ≤ 1000000) : m_slices_Compact_int_int FU c = some (cmpct c) := by
  have h2 : ∀ s2, m_slices_Compact_int_int_L1 FU c s2 = cpL1 FU 0 c s2 := fun s2 => by
    unfold m_slices_Compact_int_int_L1 cpL1; rfl
  have : m_slices_Compact_int_int FU c = cpM FU 0 c := by
    unfold m_slices_Compact_int_int cpM
    simp only [h2]
    cases iter FU (fun s => cpL1 FU 0 c s) 1 with
    | none => rfl
    | some r => cases r <;> rfl
  rw [this, cpM_eq (by simp only [ML]; omega) (by simp only [FU]; omega)]
/-- A list with the members of a list without repetition, as many, none twice, is that list in another order. -/
theorem nodup_perm : ∀ {F R : List Int}, F.Nodup → (∀ y ∈ F, y ∈ R) → F.length = R.length → F.Perm R
  | [], R, _, _, hl => by rw [List.length_eq_zero_iff.1 hl.symm]
  | x :: F, R, hn, hs, hl => by
    have hx := hs x List.mem_cons_self
    have hp := List.perm_cons_erase hx
    obtain ⟨n1, n2⟩ := List.nodup_cons.1 hn
    have hlen : R.length = (R.erase x).length + 1 := by rw [hp.length_eq]; rfl
    refine ((nodup_perm (R := R.erase x) n2 (fun y hy => ?_) (by simp at hl; omega)).cons x).trans hp.symm
    have hne : y ≠ x := fun e => n1 (e ▸ hy)
    exact (List.mem_erase_of_ne hne).2 (hs y (List.mem_cons_of_mem _ hy))

/-! ### lists that are the same -/
theorem same_gen {α : Type} [DecidableEq α] [Inhabited α] {a b : List α} {g : Int → Option (Int ⊕ (Bool ⊕ Unit))} (hl : a.length ≤ 1000000)
    (hg : ∀ (j : Nat) (h : j < a.length) (h2 : j < b.length), g (j : Int) = some (if a[j] = b[j] then .inl ((j + 1 : Nat) : Int) else .inr (.inl false))) (he : g (a.length : Int) = some (.inr (.inr ()))) :
    (if (!decide ((a.length : Int) = (b.length : Int))) = true then some false else (iter FU g (0 : Int)).bind fun t3 => match t3 with | (.inl u4) => some u4 | (.inr _) => some true) = some (decide (a = b)) := by
  by_cases hlen : a.length = b.length
  · rw [if_neg (by simp [hlen])]
    have := iter_any (ρ := Bool ⊕ Unit) (f := g) a.length FU (fun i => !decide (a.getD i default = b.getD i default)) (.inl false) (.inr ()) (fun j hj => by
      rw [hg j hj (by omega), show a.getD j default = a[j] by simp [hj], show b.getD j default = b[j] by simp [show j < b.length by omega]]
      by_cases h : a[j] = b[j]
      · rw [if_pos h, decide_eq_true h]; rfl
      · rw [if_neg h, decide_eq_false h]; rfl) he (by simp only [FU]; omega)
    rw [this, Option.bind_some]
    have e : anyN a.length (fun i => !decide (a.getD i default = b.getD i default)) = !decide (a = b) := by
      rw [Bool.eq_iff_iff, anyN_t]
      simp only [Bool.not_eq_true', decide_eq_false_iff_not]
      constructor
      · rintro ⟨i, _, h⟩ e; subst e; exact h rfl
      · intro h
        by_cases hh : ∃ i, i < a.length ∧ ¬ a.getD i default = b.getD i default
        · exact hh
        · exfalso; apply h
          refine List.ext_getElem hlen fun i h1 h2 => ?_
          have : a.getD i default = b.getD i default := Classical.byContradiction fun hc => hh ⟨i, h1, hc⟩
          simpa [h1, h2] using this
    rw [e]
    cases decide (a = b) <;> rfl
  · rw [if_pos (by simp; omega), decide_eq_false (fun e => hlen (by rw [e]))]
theorem sameI_ok {a b : List Int} (hl : a.length ≤ 1000000) : m_ref30_SameInts FU a b = some (decide (a = b)) :=
  same_gen hl (g := fun s => m_ref30_SameInts_L1 FU a b s) (fun j h h2 => by
    unfold m_ref30_SameInts_L1
    rw [if_pos (decide_eq_true (by omega)), ixL h, Option.bind_some, ixL h2, Option.bind_some, wadd1 h (by simp only [ML]; omega)]
    by_cases e : a[j] = b[j]
    · rw [if_neg (by simp [e]), if_pos e]
    · rw [if_pos (by simp [e]), if_neg e]) (by unfold m_ref30_SameInts_L1; simp)
theorem equal_ok {a b : List Int} (hl : a.length ≤ 1000000) : m_slices_Equal_int_int FU a b = some (decide (a = b)) :=
  same_gen hl (g := fun s => m_slices_Equal_int_int_L1 FU a b s) (fun j h h2 => by
    unfold m_slices_Equal_int_int_L1
    rw [if_pos (decide_eq_true (by omega)), ixL h, Option.bind_some, ixL h2, Option.bind_some, wadd1 h (by simp only [ML]; omega)]
    by_cases e : a[j] = b[j]
    · rw [if_neg (by simp [e]), if_pos e]
    · rw [if_pos (by simp [e]), if_neg e]) (by unfold m_slices_Equal_int_int_L1; simp)
theorem equalF_ok {a b : List (List Int)} {p : List Int → List Int → Option Bool} (hl : a.length ≤ 1000000) (hp : ∀ x ∈ a, ∀ y ∈ b, p x y = some (decide (x = y))) : m_slices_EqualFunc_int_int_int_int FU a b p = some (decide (a = b)) :=
  same_gen hl (g := fun s => m_slices_EqualFunc_int_int_int_int_L1 FU a b p s) (fun j h h2 => by
    unfold m_slices_EqualFunc_int_int_int_int_L1
    rw [if_pos (decide_eq_true (by omega)), ixL h, Option.bind_some, ixL h2, Option.bind_some, hp _ (List.getElem_mem h) _ (List.getElem_mem h2), Option.bind_some, wadd1 h (by simp only [ML]; omega)]
    by_cases e : a[j] = b[j]
    · rw [if_neg (by simp [e]), if_pos e]
    · rw [if_pos (by simp [e]), if_neg e]) (by unfold m_slices_EqualFunc_int_int_int_int_L1; simp)

/-! ### members -/
theorem has_ok {l : List Int} {a : Int} (hl : l.length ≤ 1000000) : m_ref35_has FU l a = some (decide (a ∈ l)) := by
  have q : iter FU (fun s => m_ref35_has_L1 FU l a s) 0 = some (if anyN l.length (fun j => decide (l.getD j default = a)) = true then .inl true else .inr ()) := by
    refine iter_any (f := fun s => m_ref35_has_L1 FU l a s) l.length FU (fun j => decide (l.getD j default = a)) (.inl true) (.inr ()) (fun j hj => ?_) (by simp [m_ref35_has_L1]) (by simp only [FU]; omega)
    simp only [m_ref35_has_L1]
    rw [if_pos (decide_eq_true (by omega)), ix_get default hj, Option.bind_some, wadd1 hj (by simp only [ML]; omega)]
    split <;> rfl
  unfold m_ref35_has
  rw [q, anyN_getD l default (fun y => decide (y = a))]
  have : (l.any fun y => decide (y = a)) = decide (a ∈ l) := by
    rw [Bool.eq_iff_iff, List.any_eq_true, decide_eq_true_iff]
    exact ⟨fun ⟨x, h1, h2⟩ => by rw [← of_decide_eq_true h2]; exact h1, fun h => ⟨a, h, by simp⟩⟩
  rw [this]
  by_cases h : a ∈ l <;> simp [h]
theorem contains_ok {l : List Int} {a : Int} (hl : l.length ≤ 1000000) : m_slices_Contains_int_int FU l a = some (decide (a ∈ l)) := by
  unfold m_slices_Contains_int_int m_slices_Index_int_int
  rcases iter_scan (f := fun s => m_slices_Index_int_int_L1 FU l a s) l.length (fun j => decide (a = l.getD j default)) (fun j => .inl (j : Int)) (.inr ()) l.length 0 FU 0 (by omega) (fun j hj => by
    simp only [m_slices_Index_int_int_L1]
    rw [if_pos (decide_eq_true (by omega)), ix_get default hj, Option.bind_some, wadd1 hj (by simp only [ML]; omega)]
    split <;> rfl) (by simp [m_slices_Index_int_int_L1]) (by simp only [FU]; omega) rfl with ⟨i, _, h2, h3, _, h5⟩ | ⟨h1, h2⟩
  · rw [h5]
    simp only [Option.bind_some]
    have : a ∈ l := by
      have := of_decide_eq_true h3
      rw [this]; simp [h2]
    rw [decide_eq_true (by omega), decide_eq_true this]
  · rw [h2]
    simp only [Option.bind_some]
    have : a ∉ l := fun hm => by
      obtain ⟨i, hi, rfl⟩ := List.getElem_of_mem hm
      have := h1 i (by omega) hi
      simp [hi] at this
    rw [decide_eq_false (by omega), decide_eq_false this]

/-! ### a number put into a list in order -/
theorem slc_split {α : Type} {a b : List α} : slc (a ++ b) 0 (a.length : Int) = some a ∧ slc (a ++ b) (a.length : Int) ((a ++ b).length : Int) = some b := by
  constructor
  · unfold slc; rw [if_pos (by rw [List.length_append]; omega)]; simp
  · unfold slc; rw [if_pos (by rw [List.length_append]; omega), Int.toNat_natCast, Int.toNat_natCast, List.take_length]; simp
theorem put_ok {l : List Int} {a : Int} (hs : AscI l) (hl : l.length ≤ 100000) : ∃ r, m_ref35_put FU l a = some r ∧ AscI r ∧ (∀ y, y ∈ r ↔ y = a ∨ y ∈ l) ∧ r.length ≤ l.length + 1 := by
  have hpq : l.takeWhile (fun y => decide (y < a)) ++ l.dropWhile (fun y => decide (y < a)) = l := List.takeWhile_append_dropWhile
  have hp : ∀ y ∈ l.takeWhile (fun y => decide (y < a)), y < a := fun y hy => by simpa using List.all_eq_true.1 (List.all_takeWhile (p := fun y => decide (y < a)) (l := l)) y hy
  have hq : ∀ b q', l.dropWhile (fun y => decide (y < a)) = b :: q' → ¬ b < a := fun b q' e => by
    have := List.head?_dropWhile_not (fun y => decide (y < a)) l
    rw [e] at this
    simpa using this
  generalize l.takeWhile (fun y => decide (y < a)) = p at *
  generalize l.dropWhile (fun y => decide (y < a)) = q at *
  subst hpq
  rw [List.length_append] at hl
  have hi : iter FU (fun s => m_ref35_put_L1 FU (p ++ q) a s) 0 = some (p.length : Int) := by
    refine iter_to (f := fun s => m_ref35_put_L1 FU (p ++ q) a s) (fun j => (j : Int)) p.length FU _ (fun j hj => ?_) ?_ (by simp only [FU]; omega) rfl
    · simp only [m_ref35_put_L1]
      have h1 : (j : Int) < ((p ++ q).length : Int) := by rw [List.length_append]; omega
      have h2 : ix (p ++ q) (j : Int) = some p[j] := by rw [ixL (by rw [List.length_append]; omega)]; simp [hj]
      rw [if_pos (decide_eq_true h1), h2, Option.bind_some, decide_eq_true h1, decide_eq_true (hp _ (List.getElem_mem hj)), wadd1 hj (by simp only [ML]; omega)]
      rfl
    · simp only [m_ref35_put_L1]
      cases q with
      | nil => simp
      | cons b q' =>
        have h1 : (p.length : Int) < ((p ++ b :: q').length : Int) := by rw [List.length_append, List.length_cons]; omega
        have h2 : ix (p ++ b :: q') (p.length : Int) = some b := by rw [ixL (by simp)]; simp
        rw [if_pos (decide_eq_true h1), h2, Option.bind_some, decide_eq_true h1, decide_eq_false (hq b q' rfl)]
        rfl
  obtain ⟨hs1, hs2⟩ := slc_split (a := p) (b := q)
  have hne : ∀ v5 : Int, (if decide ((p.length : Int) < ((p ++ q).length : Int)) = true then ix (p ++ q) (p.length : Int) else some default) = some v5 → (decide ((p.length : Int) < ((p ++ q).length : Int)) && decide (v5 = a)) = false →
      m_ref35_put FU (p ++ q) a = some (p ++ a :: q) := fun v5 h5 h6 => by
    unfold m_ref35_put
    rw [hi, Option.bind_some, h5, Option.bind_some, h6]
    simp only [Bool.false_eq_true, if_false]
    rw [hs1, Option.bind_some, hs2, Option.bind_some, app_eq (by simp; omega) (by simp; omega), Option.bind_some, app_eq (by simp; omega) (by simp; omega)]
    rfl
  have hps := (List.pairwise_append.1 hs)
  have hgood : (∀ y ∈ q, a < y) → AscI (p ++ a :: q) ∧ (∀ y, y ∈ p ++ a :: q ↔ y = a ∨ y ∈ p ++ q) ∧ (p ++ a :: q).length ≤ (p ++ q).length + 1 := fun hq2 => by
    refine ⟨List.pairwise_append.2 ⟨hps.1, List.pairwise_cons.2 ⟨hq2, hps.2.1⟩, fun x hx y hy => ?_⟩, fun y => ?_, by simp; omega⟩
    · rcases List.mem_cons.1 hy with rfl | hy
      · exact hp x hx
      · exact hps.2.2 x hx y hy
    · simp only [List.mem_append, List.mem_cons]
      exact or_left_comm
  cases q with
  | nil => exact ⟨_, hne default (by simp) (by simp), hgood (fun y hy => by cases hy)⟩
  | cons b q' =>
    have h1 : (p.length : Int) < ((p ++ b :: q').length : Int) := by rw [List.length_append, List.length_cons]; omega
    have h2 : ix (p ++ b :: q') (p.length : Int) = some b := by rw [ixL (by simp)]; simp
    have hb := hq b q' rfl
    have hbq := (List.pairwise_cons.1 hps.2.1).1
    by_cases he : b = a
    · subst he
      refine ⟨p ++ b :: q', ?_, hs, fun y => ⟨fun h => .inr h, fun h => h.elim (fun h => by simp [h]) id⟩, by omega⟩
      unfold m_ref35_put
      rw [hi, Option.bind_some, if_pos (decide_eq_true h1), h2, Option.bind_some, decide_eq_true h1]
      simp
    · refine ⟨_, hne b (by rw [if_pos (decide_eq_true h1), h2]) (by simp [he]), hgood (fun y hy => ?_)⟩
      rcases List.mem_cons.1 hy with rfl | hy
      · omega
      · have := hbq y hy; omega

/-! ### maps -/
section
variable {κ ν : Type} [DecidableEq κ]
theorem mget_cons (x : κ × ν) (m : List (κ × ν)) (k : κ) : mget (x :: m) k = if k = x.1 then some x.2 else mget m k := by
  unfold mget
  rw [mfind]
  by_cases h : k = x.1
  · simp [h]
  · rw [if_neg h, if_neg h]
    cases mfind m k with
    | none => rfl
    | some j => simp
theorem mput_cons (x : κ × ν) (m : List (κ × ν)) (k : κ) (v : ν) : mput (x :: m) k v = if k = x.1 then (k, v) :: m else x :: mput m k v := by
  unfold mput
  rw [mfind]
  by_cases h : k = x.1
  · simp [h]
  · rw [if_neg h, if_neg h]
    cases mfind m k with
    | none => rfl
    | some j => simp
theorem mget_mput (m : List (κ × ν)) (k k' : κ) (v : ν) : mget (mput m k v) k' = if k' = k then some v else mget m k' := by
  induction m with
  | nil => show mget [(k, v)] k' = _; rw [mget_cons]
  | cons x m ih =>
    rw [mput_cons]
    by_cases h : k = x.1
    · rw [if_pos h, mget_cons, mget_cons]
      dsimp only
      by_cases h2 : k' = k
      · rw [if_pos h2, if_pos h2]
      · rw [if_neg h2, if_neg h2, if_neg (fun h3 => h2 (h3.trans h.symm))]
    · rw [if_neg h, mget_cons, mget_cons, ih]
      by_cases h2 : k' = x.1
      · rw [if_pos h2, if_pos h2, if_neg (fun h3 => h (h3.symm.trans h2))]
      · rw [if_neg h2, if_neg h2]
end
/-- Those that were seen, as a map. -/
def seenM (l : List Int) : List (Int × Bool) := l.foldl (fun m x => mput m x true) []
theorem seenM_snoc (l : List Int) (x : Int) : seenM (l ++ [x]) = mput (seenM l) x true := by simp [seenM, List.foldl_append]
theorem seen_fold (a : Int) : ∀ (l : List Int) (m : List (Int × Bool)), (mget (l.foldl (fun m x => mput m x true) m) a).getD false = (decide (a ∈ l) || (mget m a).getD false)
  | [], m => by simp
  | x :: l, m => by
    rw [List.foldl_cons, seen_fold a l, mget_mput]
    by_cases h : a = x
    · subst h; simp
    · simp [h]
theorem seen_has (l : List Int) (a : Int) : (mget (seenM l) a).getD false = decide (a ∈ l) := by
  unfold seenM
  rw [seen_fold]
  have : mget ([] : List (Int × Bool)) a = none := rfl
  rw [this]; simp
end Go.Proofs.YtlbiooppadlolaaGreatDoor.Ab.U
end
section
namespace Go.Proofs.YtlbiooppadlolaaGreatDoor.Ab.U
open Go

/-! ### lists in order -/
def badA (l : List Int) (i : Nat) : Bool := (decide (l.getD i 0 < 1) || decide (1000000000 < l.getD i 0)) || (decide (0 < i) && decide (l.getD i 0 ≤ l.getD (i - 1) 0))
def ascB (l : List Int) : Bool := !anyN l.length (badA l) && decide (0 < l.length)
theorem ascB_spec {l : List Int} (h : ascB l = true) : AscI l ∧ 0 < l.length := by
  simp only [ascB, Bool.and_eq_true, Bool.not_eq_true', decide_eq_true_eq] at h
  refine ⟨?_, h.2⟩
  have hn := anyN_f.1 h.1
  have step : ∀ j (hj : j + 1 < l.length), l[j] < l[j + 1] := fun j hj => by
    have := hn (j + 1) hj
    simp only [badA, Bool.or_eq_false_iff, Bool.and_eq_false_iff, decide_eq_false_iff_not] at this
    have h2 := this.2.resolve_left (by omega)
    simp [hj, show j < l.length by omega] at h2
    omega
  refine List.pairwise_iff_getElem.2 fun i j hi hj hij => ?_
  induction j with
  | zero => omega
  | succ j ih =>
    by_cases he : i = j
    · subst he; exact step i hj
    · have := ih (by omega) (by omega)
      have := step j hj
      omega
theorem asc_ok {l : List Int} (hl : l.length ≤ 1000000) : m_work_ascending FU l = some (ascB l) := by
  have q : iter FU (fun s => m_work_ascending_L1 FU l s) 0 = some (if anyN l.length (badA l) = true then .inl false else .inr ()) := by
    refine iter_any (f := fun s => m_work_ascending_L1 FU l s) l.length FU (badA l) (.inl false) (.inr ()) (fun j hj => ?_) (by simp [m_work_ascending_L1]) (by simp only [FU]; omega)
    simp only [m_work_ascending_L1]
    rw [if_pos (decide_eq_true (by omega)), ix_get 0 hj, Option.bind_some, wadd1 hj (by simp only [ML]; omega)]
    unfold badA
    generalize (decide (l.getD j 0 < 1) || decide (1000000000 < l.getD j 0)) = A
    by_cases h0 : 0 < j
    · rw [wsub1 h0 (by simp only [ML]; omega), ix_get 0 (show j - 1 < l.length by omega), decide_eq_true h0, decide_eq_true (show (0 : Int) < (j : Int) by omega)]
      cases A
      · simp only [Bool.not_false, Bool.and_self, if_true, Option.bind_some, Bool.false_or, Bool.true_and]
        split <;> rfl
      · simp
    · rw [decide_eq_false h0, decide_eq_false (show ¬ (0 : Int) < (j : Int) by omega)]
      cases A <;> simp
  unfold m_work_ascending ascB
  rw [q]
  cases anyN l.length (badA l)
  · simp
  · simp
theorem rasc_ok {l : List Int} (hl : l.length ≤ 1000000) : m_ref35_ascending FU l = some (ascB l) := by
  have q : iter FU (fun s => m_ref35_ascending_L1 FU l s) 0 = some (if anyN l.length (badA l) = true then .inl false else .inr ()) := by
    refine iter_any (f := fun s => m_ref35_ascending_L1 FU l s) l.length FU (badA l) (.inl false) (.inr ()) (fun j hj => ?_) (by simp [m_ref35_ascending_L1]) (by simp only [FU]; omega)
    simp only [m_ref35_ascending_L1]
    rw [if_pos (decide_eq_true (by omega)), ix_get 0 hj, Option.bind_some, wadd1 hj (by simp only [ML]; omega)]
    have e : ((if (!(decide (l.getD j 0 < (1 : Int)))) = true then (some (l.getD j 0) : Option Int) else some default)) = some (if (!(decide (l.getD j 0 < (1 : Int)))) = true then l.getD j 0 else default) := by split <;> rfl
    rw [e, Option.bind_some]
    have hA : (decide (l.getD j 0 < 1) || decide (1000000000 < (if (!(decide (l.getD j 0 < (1 : Int)))) = true then l.getD j 0 else default))) = (decide (l.getD j 0 < 1) || decide (1000000000 < l.getD j 0)) := by
      generalize l.getD j 0 = x
      by_cases h : x < 1
      · simp [h]
      · simp [h, show 1 ≤ x by omega]
    rw [hA]
    unfold badA
    generalize (decide (l.getD j 0 < 1) || decide (1000000000 < l.getD j 0)) = A
    by_cases h0 : 0 < j
    · rw [wsub1 h0 (by simp only [ML]; omega), ix_get 0 (show j - 1 < l.length by omega), decide_eq_true h0, decide_eq_true (show (0 : Int) < (j : Int) by omega)]
      cases A
      · simp only [Bool.not_false, Bool.and_self, if_true, Option.bind_some, Bool.false_or, Bool.true_and]
        split <;> rfl
      · simp
    · rw [decide_eq_false h0, decide_eq_false (show ¬ (0 : Int) < (j : Int) by omega)]
      cases A <;> simp
  unfold m_ref35_ascending ascB
  rw [q]
  cases anyN l.length (badA l)
  · simp
  · simp

/-! ### works -/
/-- A work of few records. -/
structure Bw (w : SWork) : Prop where
  r : w.fRecords.length ≤ 12
  e : w.fEditions.length ≤ 12
  x : ∀ y ∈ w.fEditions, y.length ≤ 12
theorem flat_len {α : Type} {c : Nat} : ∀ {E : List (List α)}, (∀ y ∈ E, y.length ≤ c) → E.flatten.length ≤ c * E.length
  | [], _ => by simp
  | x :: E, h => by
    have := flat_len (E := E) fun y hy => h y (List.mem_cons_of_mem _ hy)
    have := h x List.mem_cons_self
    simp only [List.flatten_cons, List.length_append, List.length_cons, Nat.mul_add]
    omega
theorem flat_take {α : Type} {c : Nat} {E : List (List α)} (h : ∀ y ∈ E, y.length ≤ c) (k : Nat) : (E.take k).flatten.length ≤ c * E.length :=
  Nat.le_trans (flat_len fun y hy => h y (List.mem_of_mem_take hy)) (Nat.mul_le_mul_left _ (by rw [List.length_take]; omega))
theorem flat_snoc {α : Type} {E : List (List α)} {k : Nat} (h : k < E.length) : (E.take (k + 1)).flatten = (E.take k).flatten ++ E[k] := by
  rw [take_snocL h, List.flatten_append]; simp only [List.flatten_cons, List.flatten_nil, List.append_nil]

def edBad (E : List (List Int)) (k : Nat) : Bool := !ascB (E.getD k []) || (decide (0 < k) && decide ((E.getD k []).getD 0 0 ≤ (E.getD (k - 1) []).getD 0 0))
def wv (w : SWork) : Bool := ascB w.fRecords && decide (w.fRecords.getD 0 0 = w.fID) && !anyN w.fEditions.length (edBad w.fEditions) && decide (isort intLt w.fEditions.flatten = w.fRecords)

theorem ix0 {l : List Int} (h : 0 < l.length) : ix l (0 : Int) = some (l.getD 0 0) := ix_get (i := 0) 0 h
theorem getD_at {α : Type} {l : List α} {k : Nat} {d : α} (h : k < l.length) : l.getD k d = l[k] := by simp [h]

theorem valid_ok {w : SWork} (hb : Bw w) : m_work_valid FU w = some (wv w) := by
  have hE := hb.e
  have q : iter FU (fun s => m_work_valid_L1 FU w s.1 s.2) ((0 : Int), ([] : List Int)) = some (if anyN w.fEditions.length (edBad w.fEditions) = true then .inl false else .inr w.fEditions.flatten) := by
    refine iter_st (f := fun s => m_work_valid_L1 FU w s.1 s.2) (fun j => ((j : Int), (w.fEditions.take j).flatten)) (edBad w.fEditions) (.inl false) _ w.fEditions.length rfl (by simp only [FU]; omega) (fun j hj hbad => ?_) (fun _ => by simp [m_work_valid_L1])
    simp only [m_work_valid_L1]
    have hlen : w.fEditions[j].length ≤ 12 := hb.x _ (List.getElem_mem hj)
    rw [if_pos (decide_eq_true (by omega)), ixL hj, Option.bind_some, asc_ok (by omega), Option.bind_some, wadd1 hj (by simp only [ML]; omega), flat_snoc hj]
    have happ : app 8 (w.fEditions.take j).flatten w.fEditions[j] = some ((w.fEditions.take j).flatten ++ w.fEditions[j]) := by
      have := flat_take hb.x j
      exact app_eq (by omega) (by omega)
    rw [happ]
    unfold edBad
    rw [getD_at hj]
    cases hA : ascB w.fEditions[j] with
    | false => simp
    | true =>
      have hp := (ascB_spec hA).2
      by_cases h0 : 0 < j
      · have hj1 : j - 1 < w.fEditions.length := by omega
        have hA1 : ascB w.fEditions[j - 1] = true := by
          have := hbad (j - 1) (by omega)
          unfold edBad at this
          rw [getD_at hj1] at this
          simp only [Bool.or_eq_false_iff, Bool.not_eq_false'] at this
          exact this.1
        have hp1 := (ascB_spec hA1).2
        rw [wsub1 h0 (by simp only [ML]; omega), ixL hj1, getD_at hj1, decide_eq_true h0, decide_eq_true (show (0 : Int) < (j : Int) by omega), ix0 hp]
        simp only [Bool.not_true, Bool.not_false, Bool.and_self, if_true, Option.bind_some, ix0 hp1, Bool.false_or, Bool.true_and]
        split <;> rfl
      · rw [decide_eq_false h0, decide_eq_false (show ¬ (0 : Int) < (j : Int) by omega)]
        simp
  unfold m_work_valid wv
  rw [asc_ok (by have := hb.r; omega), Option.bind_some]
  cases hA : ascB w.fRecords with
  | false => simp
  | true =>
    have hp := (ascB_spec hA).2
    have h0 : ix w.fRecords (0 : Int) = some (w.fRecords.getD 0 0) := ix_get 0 hp
    rw [h0, q]
    have hs : m_slices_Sort_int_int FU w.fEditions.flatten = some (isort intLt w.fEditions.flatten) := by
      unfold m_slices_Sort_int_int
      rw [if_pos]
      have := flat_len hb.x
      omega
    have he : m_slices_Equal_int_int FU (isort intLt w.fEditions.flatten) w.fRecords = some (decide (isort intLt w.fEditions.flatten = w.fRecords)) := equal_ok (by
      have := flat_len hb.x
      rw [isort_len]; omega)
    by_cases h1 : w.fRecords.getD 0 0 = w.fID
    · rw [decide_eq_true h1]
      simp only [Bool.not_true, Bool.not_false, if_true, Option.bind_some, Bool.or_self, Bool.false_eq_true, if_false, Bool.true_and, Bool.and_true, decide_eq_true h1]
      cases anyN w.fEditions.length (edBad w.fEditions)
      · simp [hs, he]
      · simp
    · simp only [Bool.not_true, Bool.not_false, if_true, Option.bind_some, decide_eq_false h1, Bool.or_true, Bool.false_and, Bool.and_false]

/-! ### the reference's way -/
def dupB (s x : List Int) (j : Nat) : Bool := decide (x.getD j 0 ∈ s ++ x.take j)
def inW (s x R : List Int) (j : Nat) : Bool := dupB s x j || !decide (x.getD j 0 ∈ R)
def wr (w : SWork) : Bool := ascB w.fRecords && decide (w.fRecords.getD 0 0 = w.fID) && !anyN w.fEditions.length (fun k => edBad w.fEditions k || anyN (w.fEditions.getD k []).length (inW (w.fEditions.take k).flatten (w.fEditions.getD k []) w.fRecords)) && decide (w.fEditions.flatten.length = w.fRecords.length)

theorem nodup_snoc {l : List Int} {a : Int} : (l ++ [a]).Nodup ↔ l.Nodup ∧ a ∉ l := by
  rw [List.nodup_append]
  simp only [List.nodup_cons, List.not_mem_nil, not_false_eq_true, List.nodup_nil, and_self, true_and, List.mem_singleton]
  constructor
  · rintro ⟨h1, h2⟩; exact ⟨h1, fun hm => h2 a hm a rfl rfl⟩
  · rintro ⟨h1, h2⟩; exact ⟨h1, fun x hx y hy e => h2 (by rw [← hy, ← e]; exact hx)⟩
theorem all_snoc {l : List Int} {a : Int} {R : List Int} : (∀ y ∈ l ++ [a], y ∈ R) ↔ (∀ y ∈ l, y ∈ R) ∧ a ∈ R := by
  simp only [List.mem_append, List.mem_singleton]
  exact ⟨fun h => ⟨fun y hy => h y (.inl hy), h a (.inr rfl)⟩, fun h y hy => hy.elim (h.1 y) fun e => e ▸ h.2⟩
theorem all_lt {p : Nat → Bool} {j : Nat} : (∀ i, i < j + 1 → p i = false) ↔ (∀ i, i < j → p i = false) ∧ p j = false :=
  ⟨fun h => ⟨fun i hi => h i (by omega), h j (by omega)⟩, fun h i hi => if he : i = j then he ▸ h.2 else h.1 i (by omega)⟩

theorem in_one {s R : List Int} (x : List Int) (hs : s.Nodup ∧ ∀ y ∈ s, y ∈ R) : anyN x.length (inW s x R) = false ↔ (s ++ x).Nodup ∧ ∀ y ∈ s ++ x, y ∈ R := by
  have key : ∀ j, j ≤ x.length → ((∀ i, i < j → inW s x R i = false) ↔ (s ++ x.take j).Nodup ∧ ∀ y ∈ s ++ x.take j, y ∈ R) := by
    intro j
    induction j with
    | zero => intro _; simp only [List.take_zero, List.append_nil]; exact ⟨fun _ => hs, fun _ i hi => absurd hi (Nat.not_lt_zero _)⟩
    | succ j ih =>
      intro hj
      have hj' : j < x.length := by omega
      have hin : inW s x R j = false ↔ x[j] ∉ s ++ x.take j ∧ x[j] ∈ R := by
        unfold inW dupB
        rw [getD_at hj']
        simp only [Bool.or_eq_false_iff, decide_eq_false_iff_not, Bool.not_eq_false', decide_eq_true_eq]
      rw [all_lt, ih (by omega), hin, take_snocL hj', ← List.append_assoc, nodup_snoc, all_snoc]
      exact ⟨fun ⟨⟨a, b⟩, c, d⟩ => ⟨⟨a, c⟩, b, d⟩, fun ⟨⟨a, c⟩, b, d⟩ => ⟨⟨a, b⟩, c, d⟩⟩
  have := key x.length (Nat.le_refl _)
  rw [List.take_length] at this
  rw [anyN_f]; exact this
theorem in_all {E : List (List Int)} {R : List Int} : (∀ k, k < E.length → anyN (E.getD k []).length (inW (E.take k).flatten (E.getD k []) R) = false) ↔ E.flatten.Nodup ∧ ∀ y ∈ E.flatten, y ∈ R := by
  have key : ∀ j, j ≤ E.length → ((∀ k, k < j → anyN (E.getD k []).length (inW (E.take k).flatten (E.getD k []) R) = false) ↔ (E.take j).flatten.Nodup ∧ ∀ y ∈ (E.take j).flatten, y ∈ R) := by
    intro j
    induction j with
    | zero => intro _; simp
    | succ j ih =>
      intro hj
      have hj' : j < E.length := by omega
      rw [all_lt, ih (by omega), flat_snoc hj', getD_at hj']
      constructor
      · rintro ⟨h1, h2⟩; exact (in_one _ h1).1 h2
      · intro h
        have h1 : (E.take j).flatten.Nodup ∧ ∀ y ∈ (E.take j).flatten, y ∈ R := ⟨(List.nodup_append.1 h.1).1, fun y hy => h.2 y (List.mem_append_left _ hy)⟩
        exact ⟨h1, (in_one _ h1).2 h⟩
  have := key E.length (Nat.le_refl _)
  rw [List.take_length] at this
  exact this
theorem isort_is {F R : List Int} (hR : AscI R) : isort intLt F = R ↔ F.Perm R := by
  constructor
  · rintro rfl; exact (isort_perm _ _).symm
  · intro h
    refine List.Perm.eq_of_pairwise (le := fun x y : Int => x ≤ y) ?_ ?_ ?_ ((isort_perm _ _).trans h)
    · intro a b _ _ h1 h2; omega
    · exact (isort_sorted intLt_swo F).imp (fun {a b} h => by simp [intLt] at h; omega)
    · exact hR.imp (fun h => by omega)

/-- Both ways say the same of a work. -/
theorem wv_wr (w : SWork) : wv w = wr w := by
  unfold wv wr
  cases hA : ascB w.fRecords with
  | false => simp
  | true =>
    have hR := (ascB_spec hA).1
    rw [Bool.eq_iff_iff]
    simp only [Bool.true_and, Bool.and_eq_true, Bool.not_eq_true', anyN_f, Bool.or_eq_false_iff, decide_eq_true_eq]
    rw [isort_is hR]
    constructor
    · rintro ⟨⟨h1, h2⟩, h3⟩
      have h4 := in_all.2 ⟨h3.nodup_iff.2 (asc_nodup hR), fun y hy => h3.mem_iff.1 hy⟩
      exact ⟨⟨h1, fun i hi => ⟨h2 i hi, anyN_f.1 (h4 i hi)⟩⟩, h3.length_eq⟩
    · rintro ⟨⟨h1, h2⟩, h3⟩
      have h4 := in_all.1 fun k hk => anyN_f.2 (h2 k hk).2
      exact ⟨⟨h1, fun i hi => (h2 i hi).1⟩, nodup_perm h4.1 h4.2 h3⟩
end Go.Proofs.YtlbiooppadlolaaGreatDoor.Ab.U
end
