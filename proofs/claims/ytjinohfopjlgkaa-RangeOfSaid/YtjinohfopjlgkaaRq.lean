/- Plain laws, joined. Conditions: none. -/
import Derived.Test.YtjinohfopjlgkaaRj
import Derived.Test.YtjinohfopjlgkaaCp
namespace Go.Proofs.Ytjinohfopjlgkaa.Ab
section
/- What Insert does to a valid index. Conditions: none. -/
open Go
def VB (B : List (List SItem)) : Prop := Sz B ∧ (∀ x ∈ B.flatten, rightI x = true) ∧ B.flatten.Pairwise LtI
theorem VB.len {B : List (List SItem)} (h : VB B) : B.length ≤ B.flatten.length := by
  have h1 := h.1.1
  clear h
  induction B with
  | nil => simp
  | cons b B ih =>
    have h2 := h1 b (List.mem_cons_self ..)
    have h3 := ih (fun y hy => h1 y (List.mem_cons_of_mem _ hy))
    rw [List.flatten_cons, List.length_append, List.length_cons]; omega
theorem valid_iff {n : Nat} {B : List (List SItem)} (h1 : B.length ≤ 1000000) (h2 : B.flatten.length ≤ 1000000) (hn : 1000000 < n) : ∃ v, m_rangeindex_Valid n ⟨B⟩ = some v ∧ (v = true ↔ VB B) :=
  ⟨_, valid_raw h1 h2 hn, by
    rw [Bool.and_eq_true, Bool.not_eq_true', Bool.not_eq_true', badS_iff, badO_iff]; exact Iff.rfl⟩
theorem valid_t {n : Nat} {B : List (List SItem)} (h : VB B) (h2 : B.flatten.length ≤ 1000000) (hn : 1000000 < n) : m_rangeindex_Valid n ⟨B⟩ = some true := by
  obtain ⟨v, h3, h4⟩ := valid_iff (B := B) (by have := h.len; omega) h2 hn
  rw [h3, h4.2 h]
theorem LtI.tot {x y : SItem} (h : ¬ LtI x y) : y = x ∨ LtI y x := by
  obtain ⟨a, b⟩ := x
  obtain ⟨c, d⟩ := y
  by_cases h2 : LtI ⟨c, d⟩ ⟨a, b⟩
  · exact .inr h2
  · left
    unfold LtI at h h2
    dsimp only at h h2
    rw [SItem.mk.injEq]
    omega
/-- The items with one more. -/
def insF (F : List SItem) (x : SItem) : List SItem × Bool :=
  if rightI x = true then
    if (F.dropWhile fun y => decide (LtI y x)).head? = some x then (F, false) else (F.takeWhile (fun y => decide (LtI y x)) ++ x :: F.dropWhile (fun y => decide (LtI y x)), true)
  else (F, false)
theorem dw_head {p : SItem → Bool} : ∀ {F S : List SItem} {y : SItem}, F.dropWhile p = y :: S → p y = false
  | [], S, y, h => by cases h
  | x :: F, S, y, h => by
    cases hp : p x with
    | true => rw [List.dropWhile_cons_of_pos hp] at h; exact dw_head h
    | false =>
      rw [List.dropWhile_cons_of_neg (by simp [hp])] at h
      injection h with h1 h2
      rw [← h1]; exact hp
theorem tw_mem {p : SItem → Bool} : ∀ {F : List SItem} {y : SItem}, y ∈ F.takeWhile p → p y = true
  | [], y, h => by cases h
  | x :: F, y, h => by
    cases hp : p x with
    | true =>
      rw [List.takeWhile_cons_of_pos hp] at h
      rcases List.mem_cons.1 h with e | e
      · rw [e]; exact hp
      · exact tw_mem e
    | false => rw [List.takeWhile_cons_of_neg (by simp [hp])] at h; cases h
theorem slc_0 {α : Type} {P S : List α} : slc (P ++ S) 0 (P.length : Int) = some P := by
  unfold slc; rw [if_pos ⟨by omega, by omega, by simp only [List.length_append]; omega⟩]; simp
theorem slc_1 {α : Type} {P S : List α} : slc (P ++ S) (P.length : Int) ((P ++ S).length : Int) = some S := by
  unfold slc; rw [if_pos ⟨by omega, by simp only [List.length_append]; omega, by omega⟩, show ((P ++ S).length : Int).toNat = (P ++ S).length by omega, List.take_length]; simp
theorem ref_ins {n : Nat} {F : List SItem} {x : SItem} (hl : F.length ≤ 1000000) (hn : 1000000 < n) : m_ref42_Insert n F x = some (insF F x) := by
  unfold m_ref42_Insert insF
  rw [show m_ref42_Right n (⟨x.fN, x.fDoc⟩ : SItem) = some (rightI x) from rfl, Option.bind_some]
  cases hr : rightI x with
  | false => rfl
  | true =>
    have hF := List.takeWhile_append_dropWhile (p := fun y => decide (LtI y x)) (l := F)
    have hP : ∀ y ∈ F.takeWhile (fun y => decide (LtI y x)), LtI y x := fun y hy => of_decide_eq_true (tw_mem hy)
    have hS : ∀ y S', F.dropWhile (fun y => decide (LtI y x)) = y :: S' → ¬ LtI y x := fun y S' h => of_decide_eq_false (dw_head (p := fun y => decide (LtI y x)) h)
    generalize F.takeWhile (fun y => decide (LtI y x)) = P at *
    generalize F.dropWhile (fun y => decide (LtI y x)) = S at *
    subst hF
    have hl' : P.length + S.length ≤ 1000000 := by simpa using hl
    have ex : (⟨x.fN, x.fDoc⟩ : SItem) = x := rfl
    have q : iter n (fun s => m_ref42_Insert_L1 n (P ++ S) x s) (0 : Int) = some (P.length : Int) := by
      refine iter_to (fun j => (j : Int)) P.length n _ (fun j hj => ?_) ?_ (by omega) (by simp)
      · have h1 : (P ++ S).getD j default = P[j] := by simp [hj, List.getElem?_append_left]
        have h2 := hP P[j] (List.getElem_mem hj)
        simp only [m_ref42_Insert_L1]
        rw [decide_eq_true (show (j : Int) < ((P ++ S).length : Int) by simp; omega), if_pos rfl, ix_get default (by simp; omega), Option.bind_some, h1, if_pos rfl, ex, less_i, Option.bind_some, decide_eq_true h2, if_pos (by rfl), wadd1 hj (by simp only [ML]; omega)]
      · simp only [m_ref42_Insert_L1]
        cases S with
        | nil => simp
        | cons s S =>
          have h1 : ix (P ++ s :: S) (P.length : Int) = some s := by simp [ix]
          have h2 := hS s S rfl
          rw [decide_eq_true (show (P.length : Int) < ((P ++ s :: S).length : Int) by simp; omega), if_pos rfl, h1, Option.bind_some, if_pos rfl, ex, less_i, Option.bind_some, decide_eq_false h2]
          rfl
    rw [q, Option.bind_some, ex, slc_0, slc_1]
    simp only [Option.bind_some]
    rw [app_eq (by simp; omega) (by simp; omega), Option.bind_some, List.nil_append, app_one (by omega) (by omega), Option.bind_some, app_eq (by simp; omega) (by simp; omega), Option.bind_some]
    cases S with
    | nil => simp
    | cons s S =>
      have h1 : ix (P ++ s :: S) (P.length : Int) = some s := by simp [ix]
      rw [decide_eq_true (show (P.length : Int) < ((P ++ s :: S).length : Int) by simp; omega), if_pos rfl, h1, Option.bind_some]
      by_cases hc : s = x
      · simp [hc]
      · simp [hc]
end
section
/- Insert at a valid index. Conditions: none. -/
open Go
end
section
/- Remove at a valid index. Conditions: none. -/
open Go
end
section
/- What the searches find, over the items. Conditions: none. -/
open Go
end
section
/- The documents of a range, and an index of a list. Conditions: none. -/
open Go
theorem compact_item {n : Nat} {c : List SItem} (h : c.length ≤ 1000000) (hn : 1000000 < n) : m_slices_Compact_rangeindex_Item_rangeindex_Item n c = some (cmpct c) := by
  have h2 : ∀ s2, m_slices_Compact_rangeindex_Item_rangeindex_Item_L1 n c s2 = cpL1 n ⟨0, 0⟩ c s2 := fun s2 => by
    unfold m_slices_Compact_rangeindex_Item_rangeindex_Item_L1 cpL1; rfl
  have : m_slices_Compact_rangeindex_Item_rangeindex_Item n c = cpM n ⟨0, 0⟩ c := by
    unfold m_slices_Compact_rangeindex_Item_rangeindex_Item cpM
    simp only [h2]
    cases iter n (fun s => cpL1 n ⟨0, 0⟩ c s) 1 with
    | none => rfl
    | some r => cases r <;> rfl
  rw [this, cpM_eq (by simp only [ML]; omega) (by omega)]
end
section
/- An index of a list. Conditions: none. -/
open Go
theorem insF_mem {F : List SItem} {x y : SItem} (hx : rightI x = true) : y ∈ (insF F x).1 ↔ y = x ∨ y ∈ F := by
  have hF := List.takeWhile_append_dropWhile (p := fun y => decide (LtI y x)) (l := F)
  unfold insF
  rw [if_pos hx]
  split
  · rename_i h
    constructor
    · exact .inr
    · rintro (rfl | e)
      · show y ∈ F
        rw [← hF]
        refine List.mem_append_right _ ?_
        revert h
        cases F.dropWhile (fun z => decide (LtI z y)) with
        | nil => intro h; cases h
        | cons z s => intro h; injection h with h; rw [h]; exact List.mem_cons_self ..
      · exact e
  · rename_i h
    conv => rhs; rw [← hF]
    simp only [List.mem_append, List.mem_cons]
    constructor
    · rintro (e | e | e)
      · exact .inr (.inl e)
      · exact .inl e
      · exact .inr (.inr e)
    · rintro (e | e | e)
      · exact .inr (.inl e)
      · exact .inl e
      · exact .inr (.inr e)
theorem insF_len {F : List SItem} {x : SItem} : (insF F x).1.length ≤ F.length + 1 := by
  have hF := congrArg List.length (List.takeWhile_append_dropWhile (p := fun y => decide (LtI y x)) (l := F))
  rw [List.length_append] at hF
  unfold insF
  split
  · split
    · exact Nat.le_succ _
    · show (_ ++ _ :: _).length ≤ _
      rw [List.length_append, List.length_cons]; omega
  · exact Nat.le_succ _
theorem insF_asc {F : List SItem} {x : SItem} (h : F.Pairwise LtI) : (insF F x).1.Pairwise LtI := by
  have hF := List.takeWhile_append_dropWhile (p := fun y => decide (LtI y x)) (l := F)
  have hP : ∀ y ∈ F.takeWhile (fun y => decide (LtI y x)), LtI y x := fun y hy => of_decide_eq_true (tw_mem (p := fun y => decide (LtI y x)) hy)
  have hS : ∀ y S', F.dropWhile (fun y => decide (LtI y x)) = y :: S' → ¬ LtI y x := fun y S' h => of_decide_eq_false (dw_head (p := fun y => decide (LtI y x)) h)
  unfold insF
  split
  · split
    · exact h
    · rename_i hh
      show (_ ++ _ :: _).Pairwise LtI
      generalize F.takeWhile (fun y => decide (LtI y x)) = P at *
      generalize F.dropWhile (fun y => decide (LtI y x)) = S at *
      subst hF
      rw [List.pairwise_append] at h ⊢
      have hxS : ∀ y ∈ S, LtI x y := by
        cases S with
        | nil => intro y hy; cases hy
        | cons z S =>
          have h3 : LtI x z := by
            rcases LtI.tot (hS z S rfl) with e | e
            · exact absurd (by rw [e]; rfl) hh
            · exact e
          intro y hy
          rcases List.mem_cons.1 hy with e | e
          · rw [e]; exact h3
          · exact h3.trans ((List.pairwise_cons.1 h.2.1).1 y e)
      refine ⟨h.1, List.pairwise_cons.2 ⟨hxS, h.2.1⟩, fun a ha b hb => ?_⟩
      rcases List.mem_cons.1 hb with e | e
      · rw [e]; exact hP a ha
      · exact h.2.2 a ha b e
  · exact h
theorem bad_any {n : Nat} {l : List SItem} (h : l.length ≤ 1000000) (hn : 1000000 < n) : m_slices_ContainsFunc_rangeindex_Item_rangeindex_Item n l (fun y1 => m_rangeindex_Of_1 n y1) = some (anyN l.length (fun j => !rightI (l.getD j default))) := by
  unfold m_slices_ContainsFunc_rangeindex_Item_rangeindex_Item m_slices_IndexFunc_rangeindex_Item_rangeindex_Item
  rcases iter_scan (f := fun s => m_slices_IndexFunc_rangeindex_Item_rangeindex_Item_L1 n l (fun y1 => m_rangeindex_Of_1 n y1) s) l.length (fun j => !rightI (l.getD j default)) (fun j => (.inl (j : Int) : Int ⊕ Unit)) (.inr ()) l.length 0 n 0 (by omega)
      (fun j hj => by
        simp only [m_slices_IndexFunc_rangeindex_Item_rangeindex_Item_L1]
        rw [if_pos (decide_eq_true (by omega)), ix_get default hj, Option.bind_some]
        generalize l.getD j default = x
        rw [show m_rangeindex_Of_1 n x = some (!rightI x) from rfl, Option.bind_some, wadd1 hj (by simp only [ML]; omega)]
        cases rightI x <;> rfl) (by simp [m_slices_IndexFunc_rangeindex_Item_rangeindex_Item_L1]) (by omega) rfl with ⟨j, _, h2, h3, _, h5⟩ | ⟨h1, h2⟩
  · rw [h5, anyN_t.2 ⟨j, h2, h3⟩]
    simp
  · rw [h2, anyN_f.2 (fun i hi => h1 i (by omega) hi)]
    rfl
theorem Sz_cons {b : List SItem} {L : List (List SItem)} (h : Sz L) (hb : 1 ≤ b.length ∧ b.length ≤ 32) (h0 : L ≠ [] → 17 ≤ b.length + (L.getD 0 []).length) : Sz (b :: L) := by
  refine ⟨fun x hx => ?_, fun j hj => ?_⟩
  · rcases List.mem_cons.1 hx with e | e
    · rw [e]; exact hb
    · exact h.1 x e
  · rcases j with _ | j
    · have hL : L ≠ [] := fun e => by rw [e] at hj; simp at hj
      have := h0 hL
      rwa [List.getD_cons_zero, List.getD_cons_succ]
    · have := h.2 j (by simpa using hj)
      rwa [List.getD_cons_succ, List.getD_cons_succ]
theorem Sz_nil : Sz [] := ⟨fun b hb => (nomatch hb), fun j hj => by simp at hj⟩
theorem chunks_ok : ∀ (m : Nat) (l : List SItem), l.length ≤ m → (chunksN 32 m l).flatten = l ∧ Sz (chunksN 32 m l)
  | 0, l, h => by
    obtain rfl : l = [] := List.eq_nil_of_length_eq_zero (by omega)
    exact ⟨rfl, Sz_nil⟩
  | m + 1, [], _ => ⟨rfl, Sz_nil⟩
  | m + 1, x :: l, h => by
    have hd : ((x :: l).drop 32).length ≤ m := by rw [List.length_drop, List.length_cons]; simp at h; omega
    obtain ⟨h1, h2⟩ := chunks_ok m ((x :: l).drop 32) hd
    rw [chunksN]
    refine ⟨by rw [List.flatten_cons, h1, List.take_append_drop], Sz_cons h2 (by rw [List.length_take, List.length_cons]; omega) (fun hne => ?_)⟩
    have h3 : 32 ≤ (x :: l).length := by
      rcases Nat.lt_or_ge (x :: l).length 32 with hc | hc
      · exfalso; apply hne
        rw [List.drop_eq_nil_of_le (by omega)]
        cases m <;> rfl
      · exact hc
    rw [List.length_take]; omega
/-- What the reference makes of a list. -/
theorem of_ref {n : Nat} {l : List SItem} (h : l.length ≤ 900000) (hn : 1000000 < n) :
    ∃ F, m_ref42_Of n l = some (if anyN l.length (fun j => !rightI (l.getD j default)) = true then ([], 1) else (F, 0)) ∧ (anyN l.length (fun j => !rightI (l.getD j default)) = false → F.Pairwise LtI ∧ F.length ≤ l.length ∧ ∀ y, y ∈ F ↔ y ∈ l) := by
  have q := iter_foldE (ρ := (List SItem × Int) ⊕ List SItem) (f := fun s => m_ref42_Of_L1 n l s.1 s.2) (fun j (s : List SItem) => s.length ≤ j) (fun j s => (s, (j : Int))) (fun j s => if rightI (l.getD j default) = true then .inl (insF s (l.getD j default)).1 else .inr ()) (fun s => .inr s) (fun _ : Unit => .inl ([], 1)) l.length l.length 0 n [] ([], (0 : Int)) (by omega)
    (fun j s hj hs => by
      simp only [m_ref42_Of_L1]
      rw [if_pos (decide_eq_true (by omega)), ix_get default hj, Option.bind_some]
      generalize l.getD j default = x
      rw [show m_ref42_Right n x = some (rightI x) from rfl, Option.bind_some, Option.bind_some, ref_ins (by omega) hn, Option.bind_some, wadd1 hj (by simp only [ML]; omega)]
      cases rightI x <;> rfl)
    (fun j s s' hj hs e => by
      split at e
      · injection e with e; subst e
        have := insF_len (F := s) (x := l.getD j default); omega
      · cases e) (fun s hs => by simp [m_ref42_Of_L1]) (by omega) rfl (Nat.le_refl _)
  unfold m_ref42_Of
  rcases foldE_ok (g := fun j s => if rightI (l.getD j default) = true then .inl (insF s (l.getD j default)).1 else .inr ()) (ok := fun j => rightI (l.getD j default)) (h := fun j s => (insF s (l.getD j default)).1) (c := ()) l.length 0 ([] : List SItem) (fun _ _ _ _ => rfl) with ⟨h1, h2⟩ | ⟨⟨i, h1, h2, h3⟩, h4⟩
  · have hf : anyN l.length (fun j => !rightI (l.getD j default)) = false := anyN_f.2 (fun i hi => by rw [h1 i (by omega) (by omega)]; rfl)
    refine ⟨foldN (fun j s => (insF s (l.getD j default)).1) 0 l.length [], ?_, fun _ => ?_⟩
    · rw [q, h2, hf]; rfl
    · have := foldN_inv (g := fun j s => (insF s (l.getD j default)).1) (fun j (s : List SItem) => j ≤ l.length → s.Pairwise LtI ∧ s.length ≤ j ∧ ∀ y, y ∈ s ↔ y ∈ l.take j) l.length 0 [] (fun j s hj1 hj2 hs hj => by
        obtain ⟨g1, g2, g3⟩ := hs (by omega)
        have hl := insF_len (F := s) (x := l.getD j default)
        refine ⟨insF_asc g1, by omega, fun y => ?_⟩
        rw [insF_mem (h1 j (by omega) (by omega)), g3, take_one (by omega), List.mem_append, List.mem_singleton]
        exact Or.comm) (fun _ => ⟨List.Pairwise.nil, Nat.le_refl _, by simp⟩)
      rw [Nat.zero_add] at this
      obtain ⟨g1, g2, g3⟩ := this (Nat.le_refl _)
      rw [List.take_length] at g3
      exact ⟨g1, g2, g3⟩
  · have hf : anyN l.length (fun j => !rightI (l.getD j default)) = true := anyN_t.2 ⟨i, by omega, by rw [h3]; rfl⟩
    refine ⟨[], ?_, fun hc => by rw [hf] at hc; cases hc⟩
    rw [q, h4, hf]; rfl
theorem of_prog {n : Nat} {l F : List SItem} (h : l.length ≤ 900000) (hn : 1000000 < n) (hF : anyN l.length (fun j => !rightI (l.getD j default)) = false → F.Pairwise LtI ∧ F.length ≤ l.length ∧ ∀ y, y ∈ F ↔ y ∈ l) :
    ∃ B, m_rangeindex_Of n l = some (if anyN l.length (fun j => !rightI (l.getD j default)) = true then (⟨[]⟩, 1) else (⟨B⟩, 0)) ∧ (anyN l.length (fun j => !rightI (l.getD j default)) = false → VB B ∧ B.flatten = F) := by
  unfold m_rangeindex_Of
  rw [bad_any (by omega) hn, Option.bind_some]
  cases hb : anyN l.length (fun j => !rightI (l.getD j default)) with
  | true => exact ⟨[], rfl, fun hc => by cases hc⟩
  | false =>
    obtain ⟨f1, f2, f3⟩ := hF hb
    have hs : m_slices_SortFunc_rangeindex_Item_rangeindex_Item n l = some (isort (ltOf cfC) l) := by
      unfold m_slices_SortFunc_rangeindex_Item_rangeindex_Item; rw [if_pos ⟨by omega, by omega⟩]
    have e : cmpct (isort (ltOf cfC) l) = F := by
      refine asc_ext (lt := LtI) LtI.irrefl (fun h h' => h.trans h') (cmpct_asc (lt := LtI) (fun _ _ _ h h' => h.trans h') (fun _ _ h => ?_) ?_) f1 (fun y => ?_)
      · rcases LtI.tot h with e | e
        · exact .inl e
        · exact .inr e
      · refine (isort_sorted cfC_swo l).imp (fun {a b} h => ?_)
        rw [cfC_lt, Bool.not_eq_true', decide_eq_false_iff_not] at h
        exact h
      · rw [cmpct_mem, (isort_perm _ _).mem_iff, f3]
    have hc : chunksM F 32 = some (chunksN 32 F.length F) := by
      unfold chunksM; rw [if_pos ⟨by decide, by decide, by omega⟩]; rfl
    obtain ⟨c1, c2⟩ := chunks_ok F.length F (Nat.le_refl _)
    rw [if_neg (by decide), clone_i (by omega), Option.bind_some, hs, Option.bind_some, compact_item (by rw [isort_len]; omega) hn, Option.bind_some, e, hc, Option.bind_some]
    refine ⟨chunksN 32 F.length F, rfl, fun _ => ⟨⟨c2, ?_, ?_⟩, c1⟩⟩
    · rw [c1]
      intro x hx
      obtain ⟨i, hi, rfl⟩ := List.getElem_of_mem ((f3 x).1 hx)
      have := anyN_f.1 hb i hi
      simpa [hi] using this
    · rw [c1]; exact f1
end
section
/- An index behind changes, and the laws. Conditions: none. -/
open Go
theorem plain_RangeOf {l : List SItem} : m_law42_RangeOf FU l = some true := by
  have hf := fuL
  unfold m_law42_RangeOf
  rw [awake42, Option.bind_some, if_neg (by decide)]
  by_cases h : 120 < l.length
  · rw [if_pos (decide_eq_true (by omega))]
  · rw [if_neg (by rw [decide_eq_true_eq]; omega), ours_i (by omega) fuL, Option.bind_some]
    obtain ⟨F, e1, e2⟩ := of_ref (l := l) (by omega) fuL
    obtain ⟨B, e3, e4⟩ := of_prog (l := l) (by omega) fuL e2
    rw [e3, Option.bind_some, e1, Option.bind_some]
    cases hb : anyN l.length (fun j => !rightI (l.getD j default)) with
    | true =>
      have h1 : m_law42_items FU ⟨[]⟩ = some [] := items_i (B := []) (by simp) (by simp) fuL
      have h2 : m_ref42_Same FU [] [] = some true := by rw [same_i (by simp) fuL]; simp
      simp [h1, h2]
    | false =>
      obtain ⟨f1, f2, f3⟩ := e2 hb
      obtain ⟨g1, g2⟩ := e4 hb
      have hB := g1.len
      rw [g2] at hB
      have h1 : m_law42_items FU ⟨B⟩ = some F := by rw [← g2]; exact items_i (by omega) (by rw [g2]; omega) fuL
      have h2 : m_ref42_Same FU F F = some true := by rw [same_i (by omega) fuL]; simp
      have h3 : m_rangeindex_Valid FU ⟨B⟩ = some true := valid_t g1 (by rw [g2]; omega) fuL
      simp [h1, h2, h3]
end
end Go.Proofs.Ytjinohfopjlgkaa.Ab
