/- Plain laws, joined. Conditions: none. -/
import Derived.Test.YtkdefjliknpliaaGreatDoorMi
import Derived.Test.YtkdefjliknpliaaGreatDoorPl
import Derived.Test.YtkdefjliknpliaaGreatDoorAb34
namespace Go.Proofs.YtkdefjliknpliaaGreatDoor.Ab
section
/- The order of pairs. Conditions: none. -/
open Go Go.Sort Go.Shelf
theorem cmpI_neg {a b : Int} : cmpI a b < 0 ↔ a < b := by unfold cmpI; split <;> (try split) <;> omega
theorem cmpI_zero {a b : Int} : cmpI a b = 0 ↔ a = b := by unfold cmpI; split <;> (try split) <;> omega
theorem cfP_lt {x y : SPair} : ltOf cfP x y = decide (x.fA < y.fA ∨ (x.fA = y.fA ∧ x.fB < y.fB)) := by
  unfold ltOf cfP orI
  rw [Bool.eq_iff_iff, decide_eq_true_iff, decide_eq_true_iff]
  by_cases h2 : x.fA = y.fA
  · rw [if_pos (cmpI_zero.2 h2), cmpI_neg]; omega
  · rw [if_neg (fun hc => h2 (cmpI_zero.1 hc)), cmpI_neg]; omega
theorem cfP_swo : SWO (ltOf cfP) where
  irrefl x := by rw [cfP_lt]; simp
  trans x y z h1 h2 := by
    simp only [cfP_lt, decide_eq_true_eq] at *; omega
  ntrans x y z h1 h2 := by
    simp only [cfP_lt, decide_eq_false_iff_not] at *; omega
theorem cfP_total (x y : SPair) (h1 : ltOf cfP x y = false) (h2 : ltOf cfP y x = false) : x = y := by
  simp only [cfP_lt, decide_eq_false_iff_not] at h1 h2
  obtain ⟨a, b⟩ := x
  obtain ⟨a', b'⟩ := y
  have e1 : a = a' := by dsimp only at *; omega
  have e2 : b = b' := by dsimp only at *; omega
  rw [e1, e2]
theorem cmp_i {n : Nat} {a b : Int} : m_cmp_Compare_int n a b = some (cmpI a b) := by
  simp only [m_cmp_Compare_int, m_cmp_isNaN_int, cmpI, Option.bind_some]
  simp
  split
  · rfl
  · split <;> rfl
theorem or_i {n : Nat} (h : 64 ≤ n) {a b : Int} : m_cmp_Or_int n [a, b] = some (orI a b) := by
  obtain ⟨k, rfl⟩ : ∃ k, n = k + 4 := ⟨n - 4, by omega⟩
  have w1 : IntKind.i64.wrap 1 = 1 := by decide
  have w2 : IntKind.i64.wrap 2 = 2 := by decide
  unfold orI
  by_cases ha : a = 0
  · subst ha
    by_cases hb : b = 0
    · subst hb
      simp [m_cmp_Or_int, iter, m_cmp_Or_int_L1, ix, w1, w2]
    · simp [m_cmp_Or_int, iter, m_cmp_Or_int_L1, ix, hb, w1, w2]
  · simp [m_cmp_Or_int, iter, m_cmp_Or_int_L1, ix, ha]
theorem cfP_ok {n : Nat} (h : 64 ≤ n) (x y : SPair) : m_block_Pairs_1 n x y = some (cfP x y) := by
  rw [m_block_Pairs_1, cmp_i, Option.bind_some, cmp_i, Option.bind_some, or_i h]; rfl
end
section
/- slices.Compact in plain Lean: equal neighbours are left out. Conditions: none. -/
open Go
section
variable {α : Type} [DecidableEq α]
def cpL2 (s2 : Int) (v7 : List α) (s8 : Int) (s9 : Int) (s10 : List α) : Option ((Int × Int × List α) ⊕ (Int × List α)) :=
  if (decide (s9 < (v7.length : Int))) = true then
    (
      (ix v7 s9).bind fun _ =>
      (ix s10 (s2 + s9)).bind fun v12 =>
      (ix v7 (IntKind.i64.wrap (s9 - (1 : Int)))).bind fun _ =>
      (ix s10 (s2 + (IntKind.i64.wrap (s9 - (1 : Int))))).bind fun v14 =>
      if (!decide (v12 = v14)) = true then
        (ix v7 s9).bind fun _ =>
        (ix s10 (s2 + s9)).bind fun v16 =>
        (ix s10 s8).bind fun _ =>
        (setI s10 s8 v16).bind fun v18 =>
        some ((IntKind.i64.wrap (s8 + (1 : Int))), v18)
      else
      some (s8, s10) : Option (Int × (List α))).bind fun t19 =>
    some (.inl (t19.1, (IntKind.i64.wrap (s9 + (1 : Int))), t19.2))
  else
  some (.inr (s8, s10))
def cpL1 (n : Nat) (z : α) (c1 : List α) (s2 : Int) : Option (Int ⊕ (List α ⊕ Unit)) :=
  if (decide (s2 < (c1.length : Int))) = true then
    (ix c1 s2).bind fun _ =>
    (ix c1 s2).bind fun v4 =>
    (ix c1 (IntKind.i64.wrap (s2 - (1 : Int)))).bind fun _ =>
    (ix c1 (IntKind.i64.wrap (s2 - (1 : Int)))).bind fun v6 =>
    if (decide (v4 = v6)) = true then
      (slc c1 s2 (c1.length : Int)).bind fun v7 =>
      (iter n (fun s => cpL2 s2 v7 s.1 s.2.1 s.2.2) (s2, (1 : Int), c1)).bind fun t8 =>
      (slc t8.2 t8.1 (t8.2.length : Int)).bind fun v9 =>
      (slc (clrL t8.2 t8.1.toNat v9.length z) (0 : Int) t8.1).bind fun v10 =>
      some (.inr (.inl v10))
    else
    some (.inl (IntKind.i64.wrap (s2 + (1 : Int))))
  else
  some (.inr (.inr ()))
def cpM (n : Nat) (z : α) (c1 : List α) : Option (List α) :=
  if (decide ((c1.length : Int) < (2 : Int))) = true then
    some c1
  else
  (iter n (fun s => cpL1 n z c1 s) (1 : Int)).bind fun t2 => match t2 with
  | (.inl u3) =>
    some u3
  | (.inr _) =>
    some c1
def cmpct : List α → List α
  | [] => []
  | x :: l => if l.head? = some x then cmpct l else x :: cmpct l
theorem cmpct_snoc (x : α) : ∀ l : List α, cmpct (l ++ [x]) = if l.getLast? = some x then cmpct l else cmpct l ++ [x]
  | [] => by simp [cmpct]
  | [y] => by
    by_cases h : y = x
    · subst h; simp [cmpct]
    · have h' : ¬ x = y := fun e => h e.symm
      simp [cmpct, h, h']
  | y :: z :: l => by
    have ih := cmpct_snoc x (z :: l)
    rw [List.cons_append, cmpct, ih]
    have e1 : (z :: l ++ [x]).head? = some z := rfl
    have e2 : (y :: z :: l).getLast? = (z :: l).getLast? := by simp [List.getLast?_cons_cons]
    rw [e1, e2]
    have e3 : cmpct (y :: z :: l) = if some z = some y then cmpct (z :: l) else y :: cmpct (z :: l) := rfl
    rw [e3]
    split <;> split <;> rfl
theorem cmpct_id : ∀ {c : List α}, (∀ i, i + 1 < c.length → c[i + 1]? ≠ c[i]?) → cmpct c = c
  | [], _ => rfl
  | [x], _ => by simp [cmpct]
  | x :: y :: l, h => by
    have h0 := h 0 (by simp)
    have ih := cmpct_id (c := y :: l) (fun i hi => by
      have := h (i + 1) (by simpa using hi)
      simpa using this)
    rw [cmpct, ih, if_neg]
    intro e
    apply h0
    simpa using e
omit [DecidableEq α] in
theorem ixn {l : List α} {i : Nat} : ix l (i : Int) = l[i]? := by simp [ix]
theorem cmpct_len : ∀ c : List α, (cmpct c).length ≤ c.length
  | [] => Nat.le_refl _
  | x :: l => by
    have := cmpct_len l
    rw [cmpct]
    split <;> simp <;> omega
theorem cp2 {c : List α} {j : Nat} (hl : c.length ≤ ML) : ∀ (k a b fuel : Nat) (s : List α), j + b + k = c.length → 1 ≤ b → k < fuel → s.length = c.length → a + 1 ≤ j + b → (∀ m, j + b ≤ m + 1 → s[m]? = c[m]?) →
    s.take a = cmpct (c.take (j + b)) → a ≤ c.length →
    ∃ s', iter fuel (fun s => cpL2 (j : Int) (c.drop j) s.1 s.2.1 s.2.2) ((a : Int), (b : Int), s) = some (((cmpct c).length : Int), s') ∧ s'.length = c.length ∧ s'.take (cmpct c).length = cmpct c
  | k, a, b, 0, s, _, _, h, _, _, _, _, _ => by omega
  | 0, a, b, fuel + 1, s, h1, h2, _, h4, h5, h6, h7, h8 => by
    have ha : a = (cmpct c).length := by
      have := congrArg List.length h7
      rw [List.length_take, List.take_of_length_le (by omega)] at this
      omega
    rw [List.take_of_length_le (show c.length ≤ j + b by omega)] at h7
    refine ⟨s, ?_, h4, by rw [← ha]; exact h7⟩
    rw [iter]
    simp only [cpL2]
    rw [if_neg (by simp; omega), ← ha]; rfl
  | k + 1, a, b, fuel + 1, s, h1, h2, h3, h4, h5, h6, h7, h8 => by
    have hc1 : j + b < c.length := by omega
    have hc2 : j + b - 1 < c.length := by omega
    have x1 : ix (c.drop j) (b : Int) = some c[j + b] := by rw [ixn, List.getElem?_drop, List.getElem?_eq_getElem hc1]
    have eb : IntKind.i64.wrap ((b : Int) - 1) = ((b - 1 : Nat) : Int) := by rw [w64 (by omega) (by simp only [ML] at hl; omega)]; omega
    have x2 : ix (c.drop j) ((b - 1 : Nat) : Int) = some c[j + b - 1] := by
      rw [ixn, List.getElem?_drop, show j + (b - 1) = j + b - 1 by omega, List.getElem?_eq_getElem hc2]
    have x3 : ix s ((j : Int) + (b : Int)) = some c[j + b] := by
      rw [show (j : Int) + (b : Int) = ((j + b : Nat) : Int) by omega, ixn, h6 _ (by omega), List.getElem?_eq_getElem hc1]
    have x4 : ix s ((j : Int) + ((b - 1 : Nat) : Int)) = some c[j + b - 1] := by
      rw [show (j : Int) + ((b - 1 : Nat) : Int) = ((j + b - 1 : Nat) : Int) by omega, ixn, h6 _ (by omega), List.getElem?_eq_getElem hc2]
    have et : c.take (j + b + 1) = c.take (j + b) ++ [c[j + b]] := by rw [List.take_add_one, List.getElem?_eq_getElem hc1]; rfl
    have elast : (c.take (j + b)).getLast? = some c[j + b - 1] := by
      rw [List.getLast?_eq_getElem?, List.length_take, Nat.min_eq_left (by omega), List.getElem?_take_of_lt (by omega), List.getElem?_eq_getElem hc2]
    have ew : IntKind.i64.wrap ((b : Int) + 1) = ((b + 1 : Nat) : Int) := by rw [w64 (by omega) (by simp only [ML] at hl; omega)]; rfl
    rw [iter]
    simp only [cpL2]
    rw [if_pos (by simp; omega), eb, x1, Option.bind_some, x3, Option.bind_some, x2, Option.bind_some, x4, Option.bind_some]
    by_cases hx : c[j + b] = c[j + b - 1]
    · rw [if_neg (by simp [hx]), Option.bind_some, Option.bind_some]
      dsimp only
      rw [ew]
      refine cp2 hl k a (b + 1) fuel s (by omega) (by omega) (by omega) h4 (by omega) (fun m hm => h6 m (by omega)) ?_ h8
      rw [← Nat.add_assoc, et, cmpct_snoc, if_pos (by rw [elast, hx]), h7]
    · have ha2 : a < s.length := by omega
      have x5 : ix s (a : Int) = some s[a] := by rw [ixn, List.getElem?_eq_getElem ha2]
      have x6 : setI s (a : Int) c[j + b] = some (s.set a c[j + b]) := by
        unfold setI; rw [if_pos ⟨by omega, by omega⟩]; rfl
      have ea : IntKind.i64.wrap ((a : Int) + 1) = ((a + 1 : Nat) : Int) := by rw [w64 (by omega) (by simp only [ML] at hl; omega)]; rfl
      rw [if_pos (by simp [hx]), x5]
      simp only [Option.bind_some]
      rw [x6]
      simp only [Option.bind_some]
      rw [ew, ea]
      refine cp2 hl k (a + 1) (b + 1) fuel (s.set a c[j + b]) (by omega) (by omega) (by omega) (by simpa using h4) (by omega) (fun m hm => ?_) ?_ (by omega)
      · rw [List.getElem?_set_ne (by omega)]; exact h6 m (by omega)
      · rw [← Nat.add_assoc, et, cmpct_snoc, if_neg (by rw [elast]; intro e; injection e with e; exact hx e.symm), ← h7]
        rw [List.take_add_one, List.getElem?_set_self ha2, List.take_set_of_le (Nat.le_refl _)]
        rfl
theorem cp1 {n : Nat} {z : α} {c : List α} (hl : c.length ≤ ML) (hn : c.length < n) : ∀ (k j fuel : Nat), j + k = c.length → 1 ≤ j → k < fuel → (∀ i, i + 1 < j → c[i + 1]? ≠ c[i]?) →
    ∃ r, iter fuel (fun s => cpL1 n z c s) (j : Int) = some r ∧ Sum.elim id (fun _ => c) r = cmpct c
  | k, j, 0, _, _, h, _ => by omega
  | 0, j, fuel + 1, h1, h2, _, h4 => by
    refine ⟨.inr (), ?_, (cmpct_id (fun i hi => h4 i (by omega))).symm⟩
    rw [iter]
    simp only [cpL1]
    rw [if_neg (by simp; omega)]; rfl
  | k + 1, j, fuel + 1, h1, h2, h3, h4 => by
    have hc1 : j < c.length := by omega
    have hc2 : j - 1 < c.length := by omega
    have x1 : ix c (j : Int) = some c[j] := by rw [ixn, List.getElem?_eq_getElem hc1]
    have eb : IntKind.i64.wrap ((j : Int) - 1) = ((j - 1 : Nat) : Int) := by rw [w64 (by omega) (by simp only [ML] at hl; omega)]; omega
    have x2 : ix c ((j - 1 : Nat) : Int) = some c[j - 1] := by rw [ixn, List.getElem?_eq_getElem hc2]
    rw [iter]
    simp only [cpL1]
    rw [if_pos (by simp; omega), eb, x1, Option.bind_some, Option.bind_some, x2, Option.bind_some, Option.bind_some]
    by_cases hx : c[j] = c[j - 1]
    · have hs : slc c (j : Int) (c.length : Int) = some (c.drop j) := by
        unfold slc; rw [if_pos ⟨by omega, by omega, by omega⟩, Int.toNat_natCast, Int.toNat_natCast, List.take_length]
      have hid : cmpct (c.take j) = c.take j := cmpct_id (fun i hi => by
        rw [List.length_take] at hi
        rw [List.getElem?_take_of_lt (by omega), List.getElem?_take_of_lt (by omega)]
        exact h4 i (by omega))
      have et : c.take (j + 1) = c.take j ++ [c[j]] := by rw [List.take_add_one, List.getElem?_eq_getElem hc1]; rfl
      have elast : (c.take j).getLast? = some c[j - 1] := by
        rw [List.getLast?_eq_getElem?, List.length_take, Nat.min_eq_left (by omega), List.getElem?_take_of_lt (by omega), List.getElem?_eq_getElem hc2]
      obtain ⟨s', g1, g2, g3⟩ := cp2 (c := c) (j := j) hl (c.length - j - 1) j 1 n c (by omega) (by omega) (by omega) rfl (by omega) (fun _ _ => rfl) (by
        rw [et, cmpct_snoc, if_pos (by rw [elast, hx]), hid]) (by omega)
      have hcl := cmpct_len c
      rw [if_pos (by simp [hx]), hs, Option.bind_some, show (1 : Int) = ((1 : Nat) : Int) from rfl, g1, Option.bind_some]
      dsimp only
      have hs2 : slc s' ((cmpct c).length : Int) (s'.length : Int) = some (s'.drop (cmpct c).length) := by
        unfold slc; rw [if_pos ⟨by omega, by omega, by omega⟩, Int.toNat_natCast, Int.toNat_natCast, List.take_length]
      rw [hs2, Option.bind_some]
      have hcl2 : (clrL s' (cmpct c).length (s'.drop (cmpct c).length).length z).length = s'.length := clrL_len (by rw [List.length_drop]; omega)
      have hs3 : slc (clrL s' (cmpct c).length (s'.drop (cmpct c).length).length z) 0 ((cmpct c).length : Int) = some (cmpct c) := by
        unfold slc
        rw [if_pos ⟨by omega, by omega, by omega⟩, Int.toNat_natCast]
        have : (clrL s' (cmpct c).length (s'.drop (cmpct c).length).length z).take (cmpct c).length = cmpct c := by
          unfold clrL
          rw [List.append_assoc, List.take_append_of_le_length (by rw [List.length_take]; omega), List.take_take, Nat.min_self, g3]
        rw [this]; rfl
      rw [Int.toNat_natCast, hs3]
      exact ⟨_, rfl, rfl⟩
    · have ew : IntKind.i64.wrap ((j : Int) + 1) = ((j + 1 : Nat) : Int) := by rw [w64 (by omega) (by simp only [ML] at hl; omega)]; rfl
      rw [if_neg (by simp [hx]), ew, Option.bind_some]
      refine cp1 hl hn k (j + 1) fuel (by omega) (by omega) (by omega) (fun i hi => ?_)
      by_cases hij : i + 1 = j
      · have e2 : i = j - 1 := by omega
        rw [hij, e2, List.getElem?_eq_getElem hc1, List.getElem?_eq_getElem hc2]
        intro e; injection e with e; exact hx e
      · exact h4 i (by omega)
theorem cpM_eq {n : Nat} {z : α} {c : List α} (hl : c.length ≤ ML) (hn : c.length < n) : cpM n z c = some (cmpct c) := by
  unfold cpM
  by_cases h2 : c.length < 2
  · rw [if_pos (by simp; omega), cmpct_id (fun i hi => by omega)]
  · obtain ⟨r, h3, h4⟩ := cp1 (z := z) hl hn (c.length - 1) 1 n (by omega) (by omega) (by omega) (fun i hi => by omega)
    rw [if_neg (by simp; omega), show (1 : Int) = ((1 : Nat) : Int) from rfl, h3, Option.bind_some]
    cases r <;> (rw [← h4]; rfl)
theorem cmpct_mem {x : α} : ∀ {l : List α}, x ∈ cmpct l ↔ x ∈ l
  | [] => Iff.rfl
  | y :: l => by
    have ih := cmpct_mem (x := x) (l := l)
    rw [cmpct]
    split
    · rename_i h
      rw [ih, List.mem_cons]
      constructor
      · exact .inr
      · rintro (e | e)
        · subst e
          cases l with
          | nil => cases h
          | cons z l => injection h with h; rw [h]; exact List.mem_cons_self ..
        · exact e
    · rw [List.mem_cons, List.mem_cons, ih]
theorem cmpct_asc {lt : α → α → Prop} (ht : ∀ x y z, lt x y → lt y z → lt x z) (htot : ∀ x y, ¬ lt y x → x = y ∨ lt x y) : ∀ {l : List α}, l.Pairwise (fun a b => ¬ lt b a) → (cmpct l).Pairwise lt
  | [], _ => List.Pairwise.nil
  | x :: l, h => by
    have h1 := List.pairwise_cons.1 h
    have ih := cmpct_asc ht htot h1.2
    rw [cmpct]
    split
    · exact ih
    · rename_i hh
      refine List.pairwise_cons.2 ⟨fun y hy => ?_, ih⟩
      cases l with
      | nil => cases hy
      | cons z l =>
        have hz : ¬ z = x := fun e => hh (by rw [e]; rfl)
        have hxz : lt x z := by
          rcases htot _ _ (h1.1 z (List.mem_cons_self ..)) with e | e
          · exact absurd e.symm hz
          · exact e
        rcases List.mem_cons.1 (cmpct_mem.1 hy) with e | e
        · rw [e]; exact hxz
        · rcases htot _ _ ((List.pairwise_cons.1 h1.2).1 y e) with e2 | e2
          · rw [← e2]; exact hxz
          · exact ht _ _ _ hxz e2
omit [DecidableEq α] in
theorem asc_ext {lt : α → α → Prop} (hi : ∀ {x}, ¬ lt x x) (ht : ∀ {x y z}, lt x y → lt y z → lt x z) : ∀ {l k : List α}, l.Pairwise lt → k.Pairwise lt → (∀ x, x ∈ l ↔ x ∈ k) → l = k
  | [], [], _, _, _ => rfl
  | [], y :: k, _, _, h => by have := (h y).2 (List.mem_cons_self ..); cases this
  | x :: l, [], _, _, h => by have := (h x).1 (List.mem_cons_self ..); cases this
  | x :: l, y :: k, hl, hk, h => by
    have h1 := List.pairwise_cons.1 hl
    have h2 := List.pairwise_cons.1 hk
    have e : x = y := by
      rcases List.mem_cons.1 ((h x).1 (List.mem_cons_self ..)) with e | e
      · exact e
      · rcases List.mem_cons.1 ((h y).2 (List.mem_cons_self ..)) with e2 | e2
        · exact e2.symm
        · exact absurd (ht (h1.1 y e2) (h2.1 x e)) hi
    subst e
    rw [asc_ext hi ht h1.2 h2.2 (fun z => ?_)]
    constructor
    · intro hz
      rcases List.mem_cons.1 ((h z).1 (List.mem_cons_of_mem _ hz)) with e | e
      · subst e; exact absurd (h1.1 z hz) hi
      · exact e
    · intro hz
      rcases List.mem_cons.1 ((h z).2 (List.mem_cons_of_mem _ hz)) with e | e
      · subst e; exact absurd (h2.1 z hz) hi
      · exact e
end
end
end Go.Proofs.YtkdefjliknpliaaGreatDoor.Ab
