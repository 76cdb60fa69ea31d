/- Plain laws, joined. Conditions: none. -/
import Derived.Test.YtkfffaoopcnaoaaSc
import Derived.Test.YtkfffaoopcnaoaaPl
import Derived.Test.YtkfffaoopcnaoaaCp
namespace Go.Proofs.Ytkfffaoopcnaoaa.Ab
section
/- The example, and classes of numbers. Conditions: none. -/
open Go
theorem awake32 : m_law32_awake FU = some true := by decide +kernel

/-! ### maps -/
section
variable {κ ν : Type} [DecidableEq κ]
theorem mget_nil (k : κ) : mget ([] : List (κ × ν)) k = none := rfl
theorem mget_cons (x : κ × ν) (m : List (κ × ν)) (k : κ) : mget (x :: m) k = if k = x.1 then some x.2 else mget m k := by
  unfold mget
  rw [mfind]
  by_cases h : k = x.1
  · simp [h]
  · rw [if_neg h, if_neg h]
    cases mfind m k with
    | none => rfl
    | some j => simp
theorem mput_cons (x : κ × ν) (m : List (κ × ν)) (k : κ) (v : ν) : mput (x :: m) k v = if k = x.1 then (k, v) :: m else x :: mput m k v := by
  unfold mput
  rw [mfind]
  by_cases h : k = x.1
  · simp [h]
  · rw [if_neg h, if_neg h]
    cases mfind m k with
    | none => rfl
    | some j => simp
theorem mget_mput (m : List (κ × ν)) (k k' : κ) (v : ν) : mget (mput m k v) k' = if k' = k then some v else mget m k' := by
  induction m with
  | nil =>
    show mget [(k, v)] k' = _
    rw [mget_cons, mget_nil]
  | cons x m ih =>
    rw [mput_cons]
    by_cases h : k = x.1
    · rw [if_pos h, mget_cons, mget_cons]
      dsimp only
      by_cases h2 : k' = k
      · rw [if_pos h2, if_pos h2]
      · rw [if_neg h2, if_neg h2, if_neg (fun h3 => h2 (h3.trans h.symm))]
    · rw [if_neg h, mget_cons, mget_cons, ih]
      by_cases h2 : k' = x.1
      · rw [if_pos h2, if_pos h2, if_neg (fun h3 => h (h3.symm.trans h2))]
      · rw [if_neg h2, if_neg h2]
theorem mput_len (m : List (κ × ν)) (k : κ) (v : ν) : (mput m k v).length ≤ m.length + 1 := by
  unfold mput
  split <;> simp
theorem mget_mem {m : List (κ × ν)} {k : κ} {v : ν} (h : mget m k = some v) : (k, v) ∈ m := by
  induction m with
  | nil => cases h
  | cons x m ih =>
    rw [mget_cons] at h
    split at h
    · rename_i hk; injection h with h; subst h; subst hk; exact List.mem_cons_self
    · exact List.mem_cons_of_mem _ (ih h)
end

/-! ### classes -/
def stepR (r : Int → Int) (x : SConstraint) (y : Int) : Int := if x.fKind = 1 then (if r y = max (r x.fA) (r x.fB) then min (r x.fA) (r x.fB) else r y) else r y
def root (l : List SConstraint) : Int → Int := l.foldl stepR id
structure UF (c : List (Int × Int)) (r : Int → Int) : Prop where
  par : ∀ k v, mget c k = some v → v ≤ k ∧ r v = r k
  le : ∀ x, r x ≤ x
  idem : ∀ x, r (r x) = r x
  iff : ∀ x, r x = x ↔ (mget c x = none ∨ mget c x = some x)
theorem UF.nil : UF [] id := ⟨fun k v h => (by cases h), fun _ => Int.le_refl _, fun _ => rfl, fun x => by simp [mget_nil]⟩
theorem UF.merge {c : List (Int × Int)} {r : Int → Int} (h : UF c r) {M m : Int} (hle : m ≤ M) (hM : r M = M) (hm : r m = m) : UF (mput c M m) (fun y => if r y = M then m else r y) where
  par k v hg := by
    rw [mget_mput] at hg
    split at hg
    · rename_i hk; injection hg with hg; subst hg; subst hk
      refine ⟨hle, ?_⟩
      rw [if_pos hM, hm]
      split <;> rfl
    · obtain ⟨h1, h2⟩ := h.par k v hg
      refine ⟨h1, ?_⟩
      rw [h2]
  le x := by
    have := h.le x
    split <;> omega
  idem x := by
    by_cases hx : r x = M
    · rw [if_pos hx, hm]; split <;> rfl
    · rw [if_neg hx, h.idem, if_neg hx]
  iff x := by
    rw [mget_mput]
    have h1 := h.iff x
    have h2 := h.le x
    by_cases hx : x = M
    · subst hx
      rw [if_pos rfl, if_pos hM]
      simp
    · rw [if_neg hx]
      by_cases hr : r x = M
      · rw [if_pos hr, ← h1, hr]
        omega
      · rw [if_neg hr]; exact h1
def stepC (r : Int → Int) (x : SConstraint) (c : List (Int × Int)) : List (Int × Int) := if x.fKind = 1 then mput c (max (r x.fA) (r x.fB)) (min (r x.fA) (r x.fB)) else c
theorem UF.put {c : List (Int × Int)} {r : Int → Int} (h : UF c r) (x : SConstraint) : UF (stepC r x c) (stepR r x) := by
  unfold stepC
  by_cases hk : x.fKind = 1
  rotate_left
  · have : stepR r x = r := by funext y; simp [stepR, hk]
    rw [if_neg hk, this]; exact h
  have : stepR r x = fun y => if r y = max (r x.fA) (r x.fB) then min (r x.fA) (r x.fB) else r y := by funext y; simp [stepR, hk]
  rw [if_pos hk, this]
  refine h.merge (by omega) ?_ ?_
  · rcases Int.le_total (r x.fA) (r x.fB) with q | q
    · rw [Int.max_eq_right q]; exact h.idem _
    · rw [Int.max_eq_left q]; exact h.idem _
  · rcases Int.le_total (r x.fA) (r x.fB) with q | q
    · rw [Int.min_eq_left q]; exact h.idem _
    · rw [Int.min_eq_right q]; exact h.idem _
/-- The map of classes after a list of rules. -/
def cls : List SConstraint → List (Int × Int) := fun l => (l.foldl (fun (p : List (Int × Int) × (Int → Int)) x => (stepC p.2 x p.1, stepR p.2 x)) ([], id)).1
theorem cls_pair (l : List SConstraint) : l.foldl (fun (p : List (Int × Int) × (Int → Int)) x => (stepC p.2 x p.1, stepR p.2 x)) ([], id) = (cls l, root l) := by
  have : ∀ (l : List SConstraint) (c : List (Int × Int)) (r : Int → Int), (l.foldl (fun (p : List (Int × Int) × (Int → Int)) x => (stepC p.2 x p.1, stepR p.2 x)) (c, r)).2 = l.foldl stepR r := by
    intro l
    induction l with
    | nil => intro c r; rfl
    | cons x l ih => intro c r; exact ih _ _
  exact Prod.ext rfl (this l [] id)
theorem root_snoc (l : List SConstraint) (x : SConstraint) : root (l ++ [x]) = stepR (root l) x := by simp [root]
theorem cls_snoc (l : List SConstraint) (x : SConstraint) : cls (l ++ [x]) = stepC (root l) x (cls l) := by
  have := cls_pair l
  unfold cls
  rw [List.foldl_append, this]
  rfl
theorem snoc_ind {α : Type} {p : List α → Prop} (h0 : p []) (h1 : ∀ l x, p l → p (l ++ [x])) (l : List α) : p l := by
  have : ∀ k : List α, p k.reverse := fun k => by
    induction k with
    | nil => exact h0
    | cons x k ih => rw [List.reverse_cons]; exact h1 _ _ ih
  have := this l.reverse
  rwa [List.reverse_reverse] at this
theorem uf (l : List SConstraint) : UF (cls l) (root l) := by
  refine snoc_ind (p := fun l => UF (cls l) (root l)) .nil (fun l x ih => ?_) l
  rw [cls_snoc, root_snoc]; exact ih.put x
theorem cls_len (l : List SConstraint) : (cls l).length ≤ l.length := by
  refine snoc_ind (p := fun l => (cls l).length ≤ l.length) (Nat.le_refl _) (fun l x ih => ?_) l
  rw [cls_snoc, List.length_append]
  unfold stepC
  split
  · have := mput_len (cls l) (max (root l x.fA) (root l x.fB)) (min (root l x.fA) (root l x.fB))
    simp only [List.length_cons, List.length_nil]; omega
  · simp only [List.length_cons, List.length_nil]; omega
theorem of_go {n : Nat} {c : List (Int × Int)} {r : Int → Int} (h : UF c r) : ∀ (k fuel : Nat) (s : Int), (c.filter fun q => decide (q.1 ≤ s)).length ≤ k → k < fuel → iter fuel (fun s => m_constraint_classes_of_L1 n c s) s = some (r s)
  | k, 0, s, _, hf => by omega
  | k, fuel + 1, s, hk, hf => by
    rw [iter]
    simp only [m_constraint_classes_of_L1]
    cases hg : mget c s with
    | none =>
      have := (h.iff s).2 (.inl hg)
      simp [this]
    | some v =>
      by_cases hv : v = s
      · subst hv
        have := (h.iff v).2 (.inr hg)
        simp [this]
      · have h1 := h.par s v hg
        have hlt : v < s := by omega
        simp only [Option.isSome_some, Bool.not_true, Option.getD_some, hv, decide_false, Bool.or_false, Bool.false_eq_true, if_false]
        show iter fuel (fun s => m_constraint_classes_of_L1 n c s) v = _
        have hpos : (c.filter fun q => decide (q.1 ≤ v)).length < (c.filter fun q => decide (q.1 ≤ s)).length := by
          have hsub : (c.filter fun q => decide (q.1 ≤ v)) = (c.filter fun q => decide (q.1 ≤ s)).filter fun q => decide (q.1 ≤ v) := by
            rw [List.filter_filter]
            congr 1
            funext q
            rw [Bool.eq_iff_iff]
            simp only [Bool.and_eq_true, decide_eq_true_eq]; omega
          rw [hsub]
          refine List.length_filter_lt_length_iff_exists.2 ⟨(s, v), List.mem_filter.2 ⟨mget_mem hg, by simp⟩, by simp; omega⟩
        rw [of_go h (k - 1) fuel v (by omega) (by omega), h1.2]
theorem of_eq {n : Nat} {l : List SConstraint} (hl : l.length < n) (x : Int) : m_constraint_classes_of n (cls l) x = some (root l x) := by
  unfold m_constraint_classes_of
  rw [of_go (uf l) l.length n x (Nat.le_trans (List.length_filter_le _ _) (cls_len l)) hl]; rfl
theorem classesOf_eq {n : Nat} {l : List SConstraint} (hl : l.length < n) (hM : l.length ≤ ML) : m_constraint_classesOf n l = some (cls l) := by
  have q : iter n (fun s => m_constraint_classesOf_L1 n l s.1 s.2) ((0 : Int), []) = some (cls l) := by
   refine iter_to (fun j => ((j : Int), cls (l.take j))) l.length n _ (fun j hj => ?_) ?_ hl rfl
   · have hx : l.take (j + 1) = l.take j ++ [l[j]] := by rw [List.take_add_one]; simp [hj]
     simp only [m_constraint_classesOf_L1]
     rw [if_pos (by simp; omega), show ix l (j : Int) = some l[j] by simp [ix, hj], Option.bind_some, hx, cls_snoc]
     unfold stepC
     by_cases hk : l[j].fKind = 1
     · rw [if_pos (by simpa using hk), of_eq (by simp; omega), Option.bind_some, of_eq (by simp; omega), Option.bind_some, Option.bind_some, Option.bind_some, wadd1 hj hM, if_pos hk]
     · rw [if_neg (by simpa using hk), Option.bind_some, wadd1 hj hM, if_neg hk]
   · simp [m_constraint_classesOf_L1]
  unfold m_constraint_classesOf
  rw [q]; rfl

/-! ### closed sets -/
/-- A set that no rule leaves. -/
def Closed (l : List SConstraint) (S : Int → Prop) : Prop := ∀ x ∈ l, x.fKind = 1 → (S x.fA ↔ S x.fB)
theorem closed_root {l : List SConstraint} {S : Int → Prop} : Closed l S → ∀ x, S x ↔ S (root l x) := by
  refine snoc_ind (p := fun l => Closed l S → ∀ x, S x ↔ S (root l x)) (fun _ x => Iff.rfl) (fun l x ih h y => ?_) l
  have h1 := ih (fun z hz => h z (List.mem_append_left _ hz))
  rw [root_snoc]
  unfold stepR
  by_cases hk : x.fKind = 1
  rotate_left
  · rw [if_neg hk]; exact h1 y
  rw [if_pos hk]
  have h2 := h x (by simp) hk
  rw [h1 x.fA, h1 x.fB] at h2
  by_cases hy : root l y = max (root l x.fA) (root l x.fB)
  · rw [if_pos hy, h1 y, hy]
    rcases Int.le_total (root l x.fA) (root l x.fB) with q | q
    · rw [Int.max_eq_right q, Int.min_eq_left q]; exact h2.symm
    · rw [Int.max_eq_left q, Int.min_eq_right q]; exact h2
  · rw [if_neg hy]; exact h1 y
theorem root_edge {l : List SConstraint} : ∀ x ∈ l, x.fKind = 1 → root l x.fA = root l x.fB := by
  refine snoc_ind (p := fun l => ∀ x ∈ l, x.fKind = 1 → root l x.fA = root l x.fB) (fun x h => by simp at h) (fun l x ih y hy hk => ?_) l
  rw [root_snoc]
  unfold stepR
  rcases List.mem_append.1 hy with hy | hy
  · rw [ih y hy hk]
  · obtain rfl : y = x := by simpa using hy
    rw [if_pos hk, if_pos hk]
    rcases Int.le_total (root l y.fA) (root l y.fB) with q | q
    · rw [Int.max_eq_right q, Int.min_eq_left q, if_pos rfl]; split <;> omega
    · rw [Int.max_eq_left q, Int.min_eq_right q, if_pos rfl]; split <;> omega
/-- Classes are the smallest closed sets. -/
theorem root_closed {l : List SConstraint} {S : Int → Prop} (h : Closed l S) {x y : Int} (hxy : root l x = root l y) : S x ↔ S y := by
  rw [closed_root h x, closed_root h y, hxy]
theorem class_closed (l : List SConstraint) (a : Int) : Closed l fun y => root l y = root l a := fun x hx hk => by dsimp only; rw [root_edge x hx hk]
/-- The same rules in another order, told another way round, twice: the same classes. -/
theorem root_congr {l k : List SConstraint} (h : ∀ S, Closed l S ↔ Closed k S) : root l = root k := by
  funext x
  have h1 := (uf l)
  have h2 := (uf k)
  have e1 : root k (root l x) = root k x := (root_closed ((h _).2 (class_closed k x)) (h1.idem x)).2 rfl
  have e2 : root l (root k x) = root l x := (root_closed ((h _).1 (class_closed l x)) (h2.idem x)).2 rfl
  have := h2.le (root l x)
  have := h1.le (root k x)
  omega
end
section
/- Lists of numbers in order; what a valid list of rules is. Conditions: none. -/
open Go
theorem ixL {α : Type} {l : List α} {j : Nat} (h : j < l.length) : ix l (j : Int) = some l[j] := by simp [ix, h]
theorem take_snoc {α : Type} {l : List α} {j : Nat} (h : j < l.length) : l.take (j + 1) = l.take j ++ [l[j]] := by
  rw [List.take_add_one]; simp [h]

/-! ### validity -/
def idB (a : Int) : Bool := decide (1 ≤ a) && decide (a ≤ 1000000000)
def badC (x : SConstraint) : Bool := ((((!decide (x.fKind = 1)) && (!decide (x.fKind = 2))) || (!idB x.fA)) || (!idB x.fB)) || decide (x.fA = x.fB)
def validB (l : List SConstraint) : Bool := decide ((l.length : Int) ≤ 400) && !l.any badC
theorem valid_eq {n : Nat} {l : List SConstraint} (hn : 1000000 < n) : m_constraint_Valid n l = some (validB l) := by
  unfold m_constraint_Valid validB
  by_cases h : (l.length : Int) ≤ 400
  · have hb : m_slices_ContainsFunc_api_Constraint_api_Constraint n l (fun y1 => m_constraint_Valid_1 n y1) = some (l.any badC) :=
      contains_loop n l (fun y1 => m_constraint_Valid_1 n y1) badC (fun x _ => by
        simp only [m_constraint_Valid_1, m_constraint_id, badC, idB]
        by_cases h1 : x.fKind = 1 <;> by_cases h2 : x.fKind = 2 <;> by_cases h3 : (1 : Int) ≤ x.fA <;> by_cases h4 : x.fA ≤ 1000000000 <;> simp [h1, h2, h3, h4]) (by simp only [ML]; omega) (by omega)
    rw [if_pos (decide_eq_true h), hb]; rfl
  · rw [if_neg (by simpa using h), decide_eq_false h]; rfl
theorem refvalid_eq {n : Nat} {l : List SConstraint} (hl : l.length ≤ 1000) (hn : 1000000 < n) : m_ref32_Valid n l = some (validB l) := by
  have q : iter n (fun s => m_ref32_Valid_L1 n l s) 0 = some (if anyN l.length (fun j => badC (l.getD j default)) = true then .inl false else .inr ()) := by
    refine iter_any (f := fun s => m_ref32_Valid_L1 n l s) l.length n (fun j => badC (l.getD j default)) (.inl false) (.inr ()) (fun j hj => ?_) (by simp [m_ref32_Valid_L1]) (by omega)
    simp only [m_ref32_Valid_L1]
    rw [if_pos (decide_eq_true (by omega)), ix_get default hj, Option.bind_some, wadd1 hj (by simp only [ML]; omega)]
    generalize l.getD j default = x
    have hb : ((((((!decide (x.fKind = (1 : Int))) && (!decide (x.fKind = (2 : Int)))) || (decide (x.fA < (1 : Int)))) || (decide ((1000000000 : Int) < x.fA))) || (decide (x.fB < (1 : Int)))) || (decide ((1000000000 : Int) < x.fB)) || (decide (x.fA = x.fB))) = badC x := by
      rw [Bool.eq_iff_iff]
      simp [badC, idB]
      omega
    rw [hb]
    cases badC x <;> rfl
  unfold m_ref32_Valid validB
  rw [q, anyN_getD l default badC]
  cases l.any badC <;> simp
theorem valid_mem {l : List SConstraint} (h : validB l = true) : l.length ≤ 400 ∧ ∀ x ∈ l, (x.fKind = 1 ∨ x.fKind = 2) ∧ 1 ≤ x.fA ∧ x.fA ≤ 1000000000 ∧ 1 ≤ x.fB ∧ x.fB ≤ 1000000000 ∧ x.fA ≠ x.fB := by
  unfold validB at h
  simp only [Bool.and_eq_true, decide_eq_true_eq, Bool.not_eq_true', List.any_eq_false] at h
  refine ⟨by omega, fun x hx => ?_⟩
  have := h.2 x hx
  simp [badC, idB] at this
  omega

/-! ### lists of numbers in order -/
abbrev AscI (l : List Int) : Prop := l.Pairwise (· < ·)
theorem ascI_ext {l k : List Int} (h1 : AscI l) (h2 : AscI k) (h : ∀ y, y ∈ l ↔ y ∈ k) : l = k := asc_ext (lt := fun a b : Int => a < b) (by omega) (fun h h' => by omega) h1 h2 h
theorem has_eq {n : Nat} {l : List Int} {a : Int} (hl : l.length ≤ 100000) (hn : 1000000 < n) : m_ref32_Has n l a = some (decide (a ∈ l)) := by
  have q : iter n (fun s => m_ref32_Has_L1 n l a s) 0 = some (if anyN l.length (fun j => decide (l.getD j default = a)) = true then .inl true else .inr ()) := by
    refine iter_any (f := fun s => m_ref32_Has_L1 n l a s) l.length n (fun j => decide (l.getD j default = a)) (.inl true) (.inr ()) (fun j hj => ?_) (by simp [m_ref32_Has_L1]) (by omega)
    simp only [m_ref32_Has_L1]
    rw [if_pos (decide_eq_true (by omega)), ix_get default hj, Option.bind_some, wadd1 hj (by simp only [ML]; omega)]
    split <;> rfl
  unfold m_ref32_Has
  rw [q, anyN_getD l default (fun y => decide (y = a))]
  have : (l.any fun y => decide (y = a)) = decide (a ∈ l) := by
    rw [Bool.eq_iff_iff, List.any_eq_true, decide_eq_true_iff]
    exact ⟨fun ⟨x, h1, h2⟩ => by rw [← of_decide_eq_true h2]; exact h1, fun h => ⟨a, h, by simp⟩⟩
  rw [this]
  by_cases h : a ∈ l <;> simp [h]
theorem put_ok {n : Nat} {l : List Int} {a : Int} (hs : AscI l) (hl : l.length ≤ 100000) (hn : 1000000 < n) : ∃ r, m_ref32_put n l a = some r ∧ AscI r ∧ (∀ y, y ∈ r ↔ y = a ∨ y ∈ l) ∧ r.length ≤ l.length + 1 := by
  have hpq : l.takeWhile (fun y => decide (y < a)) ++ l.dropWhile (fun y => decide (y < a)) = l := List.takeWhile_append_dropWhile
  have hp : ∀ y ∈ l.takeWhile (fun y => decide (y < a)), y < a := fun y hy => by simpa using List.all_eq_true.1 (List.all_takeWhile (p := fun y => decide (y < a)) (l := l)) y hy
  have hq : ∀ b q', l.dropWhile (fun y => decide (y < a)) = b :: q' → ¬ b < a := fun b q' e => by
    have := List.head?_dropWhile_not (fun y => decide (y < a)) l
    rw [e] at this
    simpa using this
  generalize l.takeWhile (fun y => decide (y < a)) = p at *
  generalize l.dropWhile (fun y => decide (y < a)) = q at *
  subst hpq
  rw [List.length_append] at hl
  have hi : iter n (fun s => m_ref32_put_L1 n (p ++ q) a s) 0 = some (p.length : Int) := by
    refine iter_to (f := fun s => m_ref32_put_L1 n (p ++ q) a s) (fun j => (j : Int)) p.length n _ (fun j hj => ?_) ?_ (by omega) rfl
    · simp only [m_ref32_put_L1]
      have h1 : (j : Int) < ((p ++ q).length : Int) := by rw [List.length_append]; omega
      have h2 : ix (p ++ q) (j : Int) = some p[j] := by rw [ixL (by rw [List.length_append]; omega)]; simp [hj]
      rw [if_pos (decide_eq_true h1), h2, Option.bind_some, decide_eq_true h1, decide_eq_true (hp _ (List.getElem_mem hj)), wadd1 hj (by simp only [ML]; omega)]
      rfl
    · simp only [m_ref32_put_L1]
      cases q with
      | nil => simp
      | cons b q' =>
        have h1 : (p.length : Int) < ((p ++ b :: q').length : Int) := by rw [List.length_append, List.length_cons]; omega
        have h2 : ix (p ++ b :: q') (p.length : Int) = some b := by rw [ixL (by simp)]; simp
        rw [if_pos (decide_eq_true h1), h2, Option.bind_some, decide_eq_true h1, decide_eq_false (hq b q' rfl)]
        rfl
  have hs1 : slc (p ++ q) 0 (p.length : Int) = some p := by unfold slc; rw [if_pos (by rw [List.length_append]; omega)]; simp
  have hs2 : slc (p ++ q) (p.length : Int) ((p ++ q).length : Int) = some q := by unfold slc; rw [if_pos (by rw [List.length_append]; omega), Int.toNat_natCast, Int.toNat_natCast, List.take_length]; simp
  have hne : ∀ v5 : Int, (if decide ((p.length : Int) < ((p ++ q).length : Int)) = true then ix (p ++ q) (p.length : Int) else some default) = some v5 → (decide ((p.length : Int) < ((p ++ q).length : Int)) && decide (v5 = a)) = false →
      m_ref32_put n (p ++ q) a = some (p ++ a :: q) := fun v5 h5 h6 => by
    unfold m_ref32_put
    rw [hi, Option.bind_some, h5, Option.bind_some, h6]
    simp only [Bool.false_eq_true, if_false]
    rw [hs1, Option.bind_some, hs2, Option.bind_some, app_eq (by simp; omega) (by simp; omega), Option.bind_some, app_eq (by simp; omega) (by simp; omega)]
    rfl
  have hps := (List.pairwise_append.1 hs)
  have hgood : (∀ y ∈ q, a < y) → AscI (p ++ a :: q) ∧ (∀ y, y ∈ p ++ a :: q ↔ y = a ∨ y ∈ p ++ q) ∧ (p ++ a :: q).length ≤ (p ++ q).length + 1 := fun hq2 => by
    refine ⟨List.pairwise_append.2 ⟨hps.1, List.pairwise_cons.2 ⟨hq2, hps.2.1⟩, fun x hx y hy => ?_⟩, fun y => ?_, by simp; omega⟩
    · rcases List.mem_cons.1 hy with rfl | hy
      · exact hp x hx
      · exact hps.2.2 x hx y hy
    · simp only [List.mem_append, List.mem_cons]
      exact or_left_comm
  cases q with
  | nil => exact ⟨_, hne default (by simp) (by simp), hgood (fun y hy => by cases hy)⟩
  | cons b q' =>
    have h1 : (p.length : Int) < ((p ++ b :: q').length : Int) := by rw [List.length_append, List.length_cons]; omega
    have h2 : ix (p ++ b :: q') (p.length : Int) = some b := by rw [ixL (by simp)]; simp
    have hb := hq b q' rfl
    have hbq := (List.pairwise_cons.1 hps.2.1).1
    by_cases he : b = a
    · subst he
      refine ⟨p ++ b :: q', ?_, hs, fun y => ⟨fun h => .inr h, fun h => h.elim (fun h => by simp [h]) id⟩, by omega⟩
      unfold m_ref32_put
      rw [hi, Option.bind_some, if_pos (decide_eq_true h1), h2, Option.bind_some, decide_eq_true h1]
      simp
    · refine ⟨_, hne b (by rw [if_pos (decide_eq_true h1), h2]) (by simp [he]), hgood (fun y hy => ?_)⟩
      rcases List.mem_cons.1 hy with rfl | hy
      · omega
      · have := hbq y hy; omega
end
section
/- Records, groups and what keeps apart. Conditions: none. -/
open Go

/-! ### the numbers that rules tie -/
def endsC (x : SConstraint) : List Int := if x.fKind = 1 then [x.fA, x.fB] else []
def ends (l : List SConstraint) : List Int := l.flatMap endsC
theorem ends_mem {l : List SConstraint} {y : Int} : y ∈ ends l ↔ ∃ x ∈ l, x.fKind = 1 ∧ (y = x.fA ∨ y = x.fB) := by
  unfold ends endsC
  simp only [List.mem_flatMap]
  constructor
  · rintro ⟨x, hx, h⟩
    split at h
    · rename_i hk; exact ⟨x, hx, hk, by simpa using h⟩
    · cases h
  · rintro ⟨x, hx, hk, h⟩
    exact ⟨x, hx, by rw [if_pos hk]; simpa using h⟩
theorem ends_len (l : List SConstraint) : (ends l).length ≤ 2 * l.length := by
  unfold ends
  induction l with
  | nil => simp
  | cons x l ih =>
    rw [List.flatMap_cons, List.length_append, List.length_cons]
    have : (endsC x).length ≤ 2 := by unfold endsC; split <;> simp
    omega
def recs (l : List SConstraint) : List Int := cmpct (isort intLt (ends l))
theorem recs_asc (l : List SConstraint) : AscI (recs l) := by
  refine cmpct_asc (lt := fun a b : Int => a < b) (fun _ _ _ h h' => by omega) (fun _ _ h => by omega) ?_
  have := isort_sorted intLt_swo (ends l)
  refine this.imp (fun {a b} h => ?_)
  simpa [intLt] using h
theorem recs_mem {l : List SConstraint} {y : Int} : y ∈ recs l ↔ y ∈ ends l := by
  unfold recs
  rw [cmpct_mem, (isort_perm _ _).mem_iff]
theorem recs_len (l : List SConstraint) : (recs l).length ≤ 2 * l.length := by
  have h1 := cmpct_len (isort intLt (ends l))
  rw [isort_len] at h1
  have := ends_len l
  unfold recs; omega
/-! ### who is alone -/
theorem alone_closed {l : List SConstraint} {a : Int} (h : a ∉ ends l) : Closed l fun y => y = a := fun x hx hk => by
  constructor
  · intro e; exact absurd (ends_mem.2 ⟨x, hx, hk, .inl e.symm⟩) h
  · intro e; exact absurd (ends_mem.2 ⟨x, hx, hk, .inr e.symm⟩) h
theorem alone_root {l : List SConstraint} {a y : Int} (h : a ∉ ends l) (e : root l y = root l a) : y = a := (root_closed (alone_closed h) e).2 rfl
/-- The class of a number, in order. -/
def grp (l : List SConstraint) (a : Int) : List Int := if a ∈ recs l then (recs l).filter fun y => decide (root l y = root l a) else [a]
theorem grp_mem {l : List SConstraint} {a y : Int} : y ∈ grp l a ↔ root l y = root l a := by
  unfold grp
  by_cases h : a ∈ recs l
  · rw [if_pos h, List.mem_filter, decide_eq_true_eq]
    refine ⟨fun h => h.2, fun e => ⟨?_, e⟩⟩
    by_cases hy : y ∈ recs l
    · exact hy
    · rw [alone_root (fun h => hy (recs_mem.2 h)) e.symm] at h
      exact absurd h hy
  · rw [if_neg h, List.mem_singleton]
    exact ⟨fun e => by rw [e], fun e => alone_root (fun h2 => h (recs_mem.2 h2)) e⟩
theorem grp_asc (l : List SConstraint) (a : Int) : AscI (grp l a) := by
  unfold grp
  split
  · exact (recs_asc l).filter _
  · exact List.pairwise_singleton _ _
theorem grp_len (l : List SConstraint) (a : Int) : (grp l a).length ≤ 2 * l.length + 1 := by
  unfold grp
  have := recs_len l
  split
  · have := List.length_filter_le (fun y => decide (root l y = root l a)) (recs l); omega
  · simp

/-! ### the reference's group -/
/-- A list within the class of a. -/
structure InG (l : List SConstraint) (a : Int) (s : List Int) : Prop where
  asc : AscI s
  mem : a ∈ s
  sub : ∀ y ∈ s, root l y = root l a
theorem ascI_filter {s t : List Int} (h : AscI s) (ht : AscI t) (hs : ∀ y ∈ s, y ∈ t) : s = t.filter fun y => decide (y ∈ s) :=
  ascI_ext h (ht.filter _) fun y => by
    rw [List.mem_filter, decide_eq_true_eq]
    exact ⟨fun h => ⟨hs y h, h⟩, fun h => h.2⟩
theorem ascI_sub_len {s t : List Int} (h : AscI s) (ht : AscI t) (hs : ∀ y ∈ s, y ∈ t) : s.length ≤ t.length := by
  have := congrArg List.length (ascI_filter h ht hs)
  have := List.length_filter_le (fun y => decide (y ∈ s)) t
  omega
theorem ascI_sub_eq {s t : List Int} (h : AscI s) (ht : AscI t) (hs : ∀ y ∈ s, y ∈ t) (hl : t.length ≤ s.length) : ∀ y ∈ t, y ∈ s := by
  have h1 := congrArg List.length (ascI_filter h ht hs)
  have h2 := List.length_filter_le (fun y => decide (y ∈ s)) t
  have := List.length_filter_eq_length_iff.1 (show (t.filter fun y => decide (y ∈ s)).length = t.length by omega)
  exact fun y hy => of_decide_eq_true (this y hy)
theorem InG.len {l : List SConstraint} {a : Int} {s : List Int} (h : InG l a s) : s.length ≤ 2 * l.length + 1 :=
  Nat.le_trans (ascI_sub_len h.asc (grp_asc l a) fun y hy => grp_mem.2 (h.sub y hy)) (grp_len l a)
/-- One pass over the rules. -/
theorem group_pass {n : Nat} {l : List SConstraint} {a : Int} {s : List Int} (hl : l.length ≤ 1000) (hn : 1000000 < n) (h : InG l a s) :
    ∃ t b, iter n (fun s => m_ref32_group_L2 n l s.1 s.2.1 s.2.2) (s, false, (0 : Int)) = some (t, b) ∧ InG l a t ∧ ((b = true ∧ s.length < t.length) ∨ (b = false ∧ t = s ∧ Closed l fun y => y ∈ s)) := by
  have key : ∀ (k j fuel : Nat) (t : List Int) (b : Bool), j + k = l.length → k < fuel → InG l a t → ((b = true ∧ s.length < t.length) ∨ (b = false ∧ t = s ∧ Closed (l.take j) fun y => y ∈ s)) →
      ∃ t' b', iter fuel (fun s => m_ref32_group_L2 n l s.1 s.2.1 s.2.2) (t, b, (j : Int)) = some (t', b') ∧ InG l a t' ∧ ((b' = true ∧ s.length < t'.length) ∨ (b' = false ∧ t' = s ∧ Closed l fun y => y ∈ s)) := by
    intro k
    induction k with
    | zero =>
      intro j fuel t b hj hf hI hc
      obtain ⟨f, rfl⟩ : ∃ f, fuel = f + 1 := ⟨fuel - 1, by omega⟩
      have hj' : j = l.length := by omega
      subst hj'
      refine ⟨t, b, ?_, hI, by rwa [List.take_length] at hc⟩
      rw [iter]; simp [m_ref32_group_L2]
    | succ k ih =>
      intro j fuel t b hj hf hI hc
      obtain ⟨f, rfl⟩ : ∃ f, fuel = f + 1 := ⟨fuel - 1, by omega⟩
      have hjl : j < l.length := by omega
      have hlen := hI.len
      rw [iter]
      have hstep : ∃ t' b', m_ref32_group_L2 n l t b (j : Int) = some (.inl (t', b', ((j + 1 : Nat) : Int))) ∧ InG l a t' ∧ ((b' = true ∧ s.length < t'.length) ∨ (b' = false ∧ t' = s ∧ Closed (l.take (j + 1)) fun y => y ∈ s)) := by
        simp only [m_ref32_group_L2]
        rw [if_pos (decide_eq_true (by omega)), ixL hjl, Option.bind_some, wadd1 hjl (by simp only [ML]; omega)]
        have hmem : l[j] ∈ l := List.getElem_mem hjl
        have hcl : ∀ S : Int → Prop, Closed (l.take j) S → (l[j].fKind = 1 → (S l[j].fA ↔ S l[j].fB)) → Closed (l.take (j + 1)) S := fun S h1 h2 x hx hk => by
          rw [take_snoc hjl] at hx
          rcases List.mem_append.1 hx with hx | hx
          · exact h1 x hx hk
          · obtain rfl : x = l[j] := by simpa using hx
            exact h2 hk
        generalize l[j] = x at *
        by_cases hk : x.fKind = 1
        · simp only [decide_eq_true hk, if_true, Option.bind_some, Bool.true_and]
          rw [has_eq (by omega) hn, Option.bind_some, has_eq (by omega) hn, Option.bind_some]
          have hroot := root_edge x hmem hk
          by_cases hab : decide (x.fA ∈ t) = decide (x.fB ∈ t)
          · rw [if_neg (by simp [hab])]
            refine ⟨t, b, rfl, hI, hc.imp id fun ⟨h1, h2, h3⟩ => ⟨h1, h2, hcl _ h3 fun _ => ?_⟩⟩
            rw [← h2]
            exact decide_eq_decide.1 hab
          · rw [if_pos (by simpa using hab)]
            obtain ⟨t1, p1, p2, p3, p4⟩ := put_ok (n := n) (a := x.fA) hI.asc (by omega) hn
            obtain ⟨t2, q1, q2, q3, q4⟩ := put_ok (n := n) (a := x.fB) p2 (by omega) hn
            rw [p1, Option.bind_some, q1, Option.bind_some]
            have hr : root l x.fA = root l a := by
              by_cases hA : x.fA ∈ t
              · exact hI.sub _ hA
              · have hB : x.fB ∈ t := by
                  by_cases hB : x.fB ∈ t
                  · exact hB
                  · simp [hA, hB] at hab
                rw [hroot]; exact hI.sub _ hB
            have hmem2 : ∀ y, y ∈ t2 ↔ y = x.fB ∨ y = x.fA ∨ y ∈ t := fun y => by rw [q3, p3]
            have hI2 : InG l a t2 := ⟨q2, (hmem2 a).2 (.inr (.inr hI.mem)), fun y hy => by
              rcases (hmem2 y).1 hy with rfl | rfl | hy
              · rw [← hroot]; exact hr
              · exact hr
              · exact hI.sub y hy⟩
            have hlt : t.length < t2.length := by
              have h1 : ∀ y ∈ t, y ∈ t2 := fun y hy => (hmem2 y).2 (.inr (.inr hy))
              rcases Nat.lt_or_ge t.length t2.length with h | h
              · exact h
              · have hsub : ∀ y ∈ t2, y ∈ t := by
                  exact ascI_sub_eq hI.asc q2 h1 h
                have hA := hsub _ ((hmem2 x.fA).2 (.inr (.inl rfl)))
                have hB := hsub _ ((hmem2 x.fB).2 (.inl rfl))
                simp [hA, hB] at hab
            refine ⟨t2, true, rfl, hI2, .inl ⟨rfl, ?_⟩⟩
            rcases hc with ⟨_, h⟩ | ⟨_, h, _⟩
            · omega
            · rw [← h]; exact hlt
        · have hd : decide (x.fKind = 1) = false := decide_eq_false hk
          simp only [hd, Bool.false_eq_true, if_false, Option.bind_some, Bool.false_and]
          exact ⟨t, b, rfl, hI, hc.imp id fun ⟨h1, h2, h3⟩ => ⟨h1, h2, hcl _ h3 fun h => absurd h hk⟩⟩
      obtain ⟨t', b', e, h1, h2⟩ := hstep
      rw [e]
      exact ih (j + 1) f t' b' (by omega) (by omega) h1 h2
  exact key l.length 0 n s false (by omega) (by omega) h (.inr ⟨rfl, rfl, fun x hx => by simp at hx⟩)
theorem refgroup_eq {n : Nat} {l : List SConstraint} {a : Int} (hl : l.length ≤ 1000) (hn : 1000000 < n) : m_ref32_group n l a = some (grp l a) := by
  have key : ∀ (k fuel : Nat) (s : List Int) (b : Bool), 2 * l.length + 2 ≤ s.length + k → k + 1 < fuel → InG l a s → (b = false → Closed l fun y => y ∈ s) →
      iter fuel (fun s => m_ref32_group_L1 n l s.1 s.2) (s, b) = some (grp l a) := by
    intro k
    induction k with
    | zero => intro fuel s b h1 _ hI _; have := hI.len; omega
    | succ k ih =>
      intro fuel s b h1 hf hI hc
      obtain ⟨f, rfl⟩ : ∃ f, fuel = f + 1 := ⟨fuel - 1, by omega⟩
      have hend : (Closed l fun y => y ∈ s) → s = grp l a := fun hcl => ascI_ext hI.asc (grp_asc l a) fun y => by
        rw [grp_mem]
        exact ⟨hI.sub y, fun e => (root_closed hcl e).2 hI.mem⟩
      rw [iter]
      cases b with
      | false =>
        rw [hend (hc rfl)]
        simp [m_ref32_group_L1]
      | true =>
        obtain ⟨t, b', e, h2, h3⟩ := group_pass hl hn hI
        simp only [m_ref32_group_L1, if_true]
        rw [e, Option.bind_some]
        rcases h3 with ⟨rfl, h3⟩ | ⟨rfl, rfl, h3⟩
        · exact ih f t true (by omega) (by omega) h2 (fun h => by cases h)
        · obtain ⟨f', rfl⟩ : ∃ f', f = f' + 1 := ⟨f - 1, by omega⟩
          show iter (f' + 1) (fun s => m_ref32_group_L1 n l s.1 s.2) (t, false) = _
          rw [iter]
          rw [hend h3]
          simp [m_ref32_group_L1]
  unfold m_ref32_group
  rw [key (2 * l.length + 2) n [a] true (by simp) (by omega) ⟨List.pairwise_singleton _ _, by simp, fun y hy => by simp at hy; rw [hy]⟩ (fun h => by cases h)]
  rfl
end
section
/- Groups, and what keeps apart, in the program. Conditions: none. -/
open Go

/-! ### apart -/
def apC (r : Int → Int) (a b : Int) (x : SConstraint) : Bool := decide (x.fKind = 2) && ((decide (r x.fA = r a) && decide (r x.fB = r b)) || (decide (r x.fA = r b) && decide (r x.fB = r a)))
def apL (l : List SConstraint) (a b : Int) : Bool := l.any (apC (root l) a b)
theorem apart_eq {n : Nat} {l : List SConstraint} {a b : Int} (hl : l.length ≤ 1000) (hn : 1000000 < n) : m_constraint_apart n l (cls l) a b = some (apL l a b) := by
  have hc : m_slices_ContainsFunc_api_Constraint_api_Constraint n l (fun y1 => m_constraint_apart_1 n y1 (cls l) (root l a) (root l b)) = some (l.any (apC (root l) a b)) :=
    contains_loop n l (fun y1 => m_constraint_apart_1 n y1 (cls l) (root l a) (root l b)) (apC (root l) a b) (fun x _ => by
      simp only [m_constraint_apart_1]
      rw [of_eq (by omega), Option.bind_some, of_eq (by omega)]; rfl) (by simp only [ML]; omega) (by omega)
  unfold m_constraint_apart
  rw [of_eq (by omega), Option.bind_some, of_eq (by omega), Option.bind_some, hc]; rfl
theorem ap_aux {ρ : Type} (k0 k1 k2 k3 k4 : Bool) (x y : ρ) : ((if k0 = true then some k1 else some default).bind fun v8 => (if (k0 && v8) = true then some k2 else some default).bind fun v9 => (if (k0 && !(v8 && v9)) = true then some k3 else some default).bind fun v10 =>
    (if (k0 && !(v8 && v9) && v10) = true then some k4 else some default).bind fun v11 => if (k0 && (v8 && v9 || v10 && v11)) = true then some x else some y) = some (if (k0 && ((k1 && k2) || (k4 && k3))) = true then x else y) := by
  cases k0 <;> cases k1 <;> cases k2 <;> cases k3 <;> cases k4 <;> rfl
theorem refapart_eq {n : Nat} {l : List SConstraint} {a b : Int} (hl : l.length ≤ 1000) (hn : 1000000 < n) : m_ref32_apart n l a b = some (apL l a b) := by
  have ga := grp_len l a
  have gb := grp_len l b
  have q : iter n (fun s => m_ref32_apart_L1 n l (grp l a) (grp l b) s) 0 = some (if anyN l.length (fun j => apC (root l) a b (l.getD j default)) = true then .inl true else .inr ()) := by
    refine iter_any (f := fun s => m_ref32_apart_L1 n l (grp l a) (grp l b) s) l.length n (fun j => apC (root l) a b (l.getD j default)) (.inl true) (.inr ()) (fun j hj => ?_) (by simp [m_ref32_apart_L1]) (by omega)
    simp only [m_ref32_apart_L1]
    rw [if_pos (decide_eq_true (by omega)), ix_get default hj, Option.bind_some, wadd1 hj (by simp only [ML]; omega)]
    generalize l.getD j default = x
    rw [has_eq (by omega) hn, has_eq (by omega) hn, has_eq (by omega) hn, has_eq (by omega) hn]
    have hd : ∀ y c, decide (y ∈ grp l c) = decide (root l y = root l c) := fun y c => decide_eq_decide.2 grp_mem
    simp only [hd, apC]
    exact ap_aux _ _ _ _ _ _ _
  unfold m_ref32_apart
  rw [refgroup_eq hl hn, Option.bind_some, refgroup_eq hl hn, Option.bind_some, q, anyN_getD l default (apC (root l) a b)]
  unfold apL
  cases l.any (apC (root l) a b) <;> rfl
end
section
/- All groups. Conditions: none. -/
open Go
def tops (l : List SConstraint) (p : List Int) : List Int := p.filter fun i => decide (root l i = i)
def rowsOf (l : List SConstraint) (p : List Int) : List (List Int) := (tops l p).map fun i => p.filter fun y => decide (root l y = i)
structure GrI (l : List SConstraint) (j : Nat) (m : List (Int × Int)) (rows : List (List Int)) : Prop where
  rows : rows = rowsOf l ((recs l).take j)
  at_ : ∀ k (h : k < (tops l ((recs l).take j)).length), mget m (tops l ((recs l).take j))[k] = some (k : Int)
  none_ : ∀ i, i ∉ tops l ((recs l).take j) → mget m i = none
end
section
/- The normal form of rules. Conditions: none. -/
open Go
/-! ### sameness -/
theorem same_any {α : Type} [DecidableEq α] (d : α) {a b : List α} (h : a.length = b.length) : anyN a.length (fun j => !decide (a.getD j d = b.getD j d)) = !decide (a = b) := by
  rw [Bool.eq_iff_iff, anyN_t]
  simp only [Bool.not_eq_true', decide_eq_false_iff_not]
  constructor
  · rintro ⟨i, _, h2⟩ e; exact h2 (by rw [e])
  · intro hne
    refine Classical.byContradiction fun hc => hne (List.ext_getElem h fun i h1 h2 => ?_)
    have := Classical.not_not.1 fun hq => hc ⟨i, h1, hq⟩
    simpa [h1, h2] using this
theorem sameRules_eq {n : Nat} {a b : List SConstraint} (hl : a.length ≤ 100000) (hn : 1000000 < n) : m_ref32_SameRules n a b = some (decide (a = b)) := by
  unfold m_ref32_SameRules
  by_cases h : a.length = b.length
  rotate_left
  · rw [if_pos (by simp; omega), decide_eq_false (fun e => h (by rw [e]))]
  have q : iter n (fun s => m_ref32_SameRules_L1 n a b s) 0 = some (if anyN a.length (fun j => !decide (a.getD j default = b.getD j default)) = true then .inl false else .inr ()) := by
    refine iter_any (f := fun s => m_ref32_SameRules_L1 n a b s) a.length n (fun j => !decide (a.getD j default = b.getD j default)) (.inl false) (.inr ()) (fun j hj => ?_) (by simp [m_ref32_SameRules_L1]) (by omega)
    simp only [m_ref32_SameRules_L1]
    rw [if_pos (decide_eq_true (by omega)), ix_get default hj, Option.bind_some, ix_get default (by omega), Option.bind_some, wadd1 hj (by simp only [ML]; omega)]
    cases decide (a.getD j default = b.getD j default) <;> rfl
  rw [if_neg (by simp; omega), q, same_any default h]
  by_cases e : a = b <;> simp [e]

/-! ### the reference's groups -/
end
section
/- The normal form of rules. Conditions: none. -/
open Go
def LtC (x y : SConstraint) : Prop := x.fKind < y.fKind ∨ (x.fKind = y.fKind ∧ (x.fA < y.fA ∨ (x.fA = y.fA ∧ x.fB < y.fB)))
instance (x y : SConstraint) : Decidable (LtC x y) := by unfold LtC; infer_instance
theorem LtC.trans {x y z : SConstraint} (h : LtC x y) (h' : LtC y z) : LtC x z := by unfold LtC at *; omega
theorem LtC.irrefl {x : SConstraint} : ¬ LtC x x := by unfold LtC; omega
theorem LtC.total {x y : SConstraint} (h : ¬ LtC y x) : x = y ∨ LtC x y := by
  by_cases h2 : LtC x y
  · exact .inr h2
  · refine .inl ?_
    obtain ⟨a, b, c⟩ := x
    obtain ⟨a', b', c'⟩ := y
    unfold LtC at *
    have e1 : a = a' := by dsimp only at *; omega
    have e2 : b = b' := by dsimp only at *; omega
    have e3 : c = c' := by dsimp only at *; omega
    rw [e1, e2, e3]
theorem less_eq {n : Nat} (x y : SConstraint) : m_ref32_Less n x y = some (decide (LtC x y)) := by
  unfold m_ref32_Less LtC
  by_cases h1 : x.fKind = y.fKind
  · rw [if_neg (by simp [h1])]
    by_cases h2 : x.fA = y.fA
    · rw [if_neg (by simp [h2])]
      congr 1
      exact decide_eq_decide.2 (by omega)
    · rw [if_pos (by simp [h2])]
      congr 1
      exact decide_eq_decide.2 (by omega)
  · rw [if_pos (by simp [h1])]
    congr 1
    exact decide_eq_decide.2 (by omega)
abbrev AscC (l : List SConstraint) : Prop := l.Pairwise LtC
theorem ascC_ext {l k : List SConstraint} (h1 : AscC l) (h2 : AscC k) (h : ∀ y, y ∈ l ↔ y ∈ k) : l = k := asc_ext (lt := LtC) LtC.irrefl (fun h h' => h.trans h') h1 h2 h
def swp (x : SConstraint) : SConstraint := ⟨x.fKind, min x.fA x.fB, max x.fA x.fB⟩
def norm (l : List SConstraint) : List SConstraint := cmpct (isort (ltOf cfC) (l.map swp))
theorem norm_asc (l : List SConstraint) : AscC (norm l) := by
  refine cmpct_asc (lt := LtC) (fun _ _ _ h h' => h.trans h') (fun _ _ h => LtC.total h) ?_
  have := isort_sorted cfC_swo (l.map swp)
  refine this.imp (fun {a b} h => ?_)
  rw [cfC_lt, Bool.not_eq_true', decide_eq_false_iff_not] at h
  exact h
theorem norm_mem {l : List SConstraint} {y : SConstraint} : y ∈ norm l ↔ ∃ x ∈ l, swp x = y := by
  unfold norm
  rw [cmpct_mem, (isort_perm _ _).mem_iff, List.mem_map]
theorem norm_len (l : List SConstraint) : (norm l).length ≤ l.length := by
  have h1 := cmpct_len (isort (ltOf cfC) (l.map swp))
  rw [isort_len, List.length_map] at h1
  exact h1
theorem compact_c {n : Nat} {c : List SConstraint} (h : c.length ≤ 1000000) (hn : 1000000 < n) : m_slices_Compact_api_Constraint_api_Constraint n c = some (cmpct c) := by
  have h2 : ∀ s2, m_slices_Compact_api_Constraint_api_Constraint_L1 n c s2 = cpL1 n ⟨0, 0, 0⟩ c s2 := fun s2 => by
    unfold m_slices_Compact_api_Constraint_api_Constraint_L1 cpL1; rfl
  have : m_slices_Compact_api_Constraint_api_Constraint n c = cpM n ⟨0, 0, 0⟩ c := by
    unfold m_slices_Compact_api_Constraint_api_Constraint cpM
    simp only [h2]
    cases iter n (fun s => cpL1 n ⟨0, 0, 0⟩ c s) 1 with
    | none => rfl
    | some r => cases r <;> rfl
  rw [this, cpM_eq (by simp only [ML]; omega) (by omega)]
theorem normal_eq {n : Nat} {l : List SConstraint} (hl : l.length ≤ 1000) (hn : 1000000 < n) : m_constraint_normal n l = some (norm l) := by
  have q : iter n (fun s => m_constraint_normal_L1 n l s.1 s.2) ((0 : Int), l) = some (l.map swp) := by
    refine iter_to (f := fun s => m_constraint_normal_L1 n l s.1 s.2) (fun j => ((j : Int), (l.take j).map swp ++ l.drop j)) l.length n _ (fun j hj => ?_) ?_ (by omega) (by simp)
    · have hd : l.drop j = l[j] :: l.drop (j + 1) := List.drop_eq_getElem_cons hj
      have hlen : ((l.take j).map swp).length = j := by simp; omega
      have hix : ∀ (x : SConstraint) (t : List SConstraint), ix ((l.take j).map swp ++ x :: t) (j : Int) = some x := fun x t => by
        rw [ixL (by rw [List.length_append, hlen, List.length_cons]; omega), List.getElem_append_right (by omega)]
        simp only [hlen, Nat.sub_self, List.getElem_cons_zero]
      have hset : ∀ (x y : SConstraint) (t : List SConstraint), setI ((l.take j).map swp ++ x :: t) (j : Int) y = some ((l.take j).map swp ++ y :: t) := fun x y t => by
        unfold setI
        rw [if_pos ⟨by omega, by rw [Int.toNat_natCast, List.length_append, hlen, List.length_cons]; omega⟩, Int.toNat_natCast, List.set_append_right _ _ (by omega), hlen, Nat.sub_self]
        rfl
      simp only [m_constraint_normal_L1]
      rw [if_pos (decide_eq_true (by omega)), hd, hix, Option.bind_some, Option.bind_some, Option.bind_some, Option.bind_some, hset, Option.bind_some, hix, Option.bind_some, Option.bind_some, hset, Option.bind_some, wadd1 hj (by simp only [ML]; omega), take_snoc hj, List.map_append, List.append_assoc]
      rfl
    · simp [m_constraint_normal_L1]
  have hc : m_slices_Clone_api_Constraint_api_Constraint n l = some l := by
    unfold m_slices_Clone_api_Constraint_api_Constraint
    rw [app_eq (by simp; omega) (by simp; omega)]; rfl
  have hs : m_slices_SortFunc_api_Constraint_api_Constraint n (l.map swp) = some (isort (ltOf cfC) (l.map swp)) := by
    unfold m_slices_SortFunc_api_Constraint_api_Constraint; rw [if_pos (by simp; omega)]
  unfold m_constraint_normal
  rw [hc, Option.bind_some, q, Option.bind_some, hs, Option.bind_some, compact_c (by rw [isort_len]; simp; omega) hn]
  rfl
theorem insert_ok {n : Nat} {l : List SConstraint} {x : SConstraint} (hs : AscC l) (hl : l.length ≤ 100000) (hn : 1000000 < n) : ∃ r, m_ref32_insert n l x = some r ∧ AscC r ∧ (∀ y, y ∈ r ↔ y = swp x ∨ y ∈ l) ∧ r.length ≤ l.length + 1 := by
  have h3 : (if (decide (x.fB < x.fA)) = true then some (x.fB, x.fA) else some (x.fA, x.fB) : Option (Int × Int)) = some ((swp x).fA, (swp x).fB) := by
    unfold swp
    by_cases h : x.fB < x.fA
    · rw [if_pos (decide_eq_true h), Int.min_eq_right (by omega), Int.max_eq_left (by omega)]
    · rw [if_neg (by simpa using h), Int.min_eq_left (by omega), Int.max_eq_right (by omega)]
  have h4 : (⟨x.fKind, ((swp x).fA, (swp x).fB).1, ((swp x).fA, (swp x).fB).2⟩ : SConstraint) = swp x := rfl
  have hunf : m_ref32_insert n l x = (iter n (fun s => m_ref32_insert_L1 n l x ((swp x).fA, (swp x).fB) s) (0 : Int)).bind fun t4 =>
      ((if (decide (t4 < (l.length : Int))) = true then ix l t4 else some default)).bind fun v5 =>
      if ((decide (t4 < (l.length : Int))) && (decide (v5 = swp x))) = true then some l
      else (slc l 0 t4).bind fun v6 => (slc l t4 (l.length : Int)).bind fun v7 => (app 24 ([swp x] : List SConstraint) v7).bind fun v8 => (app 24 (v6 : List SConstraint) v8).bind fun v9 => some v9 := by
    unfold m_ref32_insert; rw [h3]; rfl
  have hL1 : ∀ s, m_ref32_insert_L1 n l x ((swp x).fA, (swp x).fB) s = ((if (decide (s < (l.length : Int))) = true then ix l s else some default)).bind fun v5 =>
      ((if (decide (s < (l.length : Int))) = true then some (decide (LtC v5 (swp x))) else some default)).bind fun v6 =>
      if ((decide (s < (l.length : Int))) && v6) = true then some (.inl (IntKind.i64.wrap (s + (1 : Int)))) else some (.inr s) := fun s => by
    unfold m_ref32_insert_L1
    simp only [less_eq]
    rfl
  rw [hunf]
  simp only [hL1]
  clear hunf hL1 h3
  generalize swp x = a at *
  have hpq : l.takeWhile (fun y => decide (LtC y a)) ++ l.dropWhile (fun y => decide (LtC y a)) = l := List.takeWhile_append_dropWhile
  have hp : ∀ y ∈ l.takeWhile (fun y => decide (LtC y a)), LtC y a := fun y hy => by simpa using List.all_eq_true.1 (List.all_takeWhile (p := fun y => decide (LtC y a)) (l := l)) y hy
  have hq : ∀ b q', l.dropWhile (fun y => decide (LtC y a)) = b :: q' → ¬ LtC b a := fun b q' e => by
    have := List.head?_dropWhile_not (fun y => decide (LtC y a)) l
    rw [e] at this
    simpa using this
  generalize l.takeWhile (fun y => decide (LtC y a)) = p at *
  generalize l.dropWhile (fun y => decide (LtC y a)) = q at *
  subst hpq
  rw [List.length_append] at hl
  have hi : iter n (fun s => ((if (decide (s < ((p ++ q).length : Int))) = true then ix (p ++ q) s else some default)).bind fun v5 =>
      ((if (decide (s < ((p ++ q).length : Int))) = true then some (decide (LtC v5 a)) else some default)).bind fun v6 =>
      if ((decide (s < ((p ++ q).length : Int))) && v6) = true then some (.inl (IntKind.i64.wrap (s + (1 : Int)))) else (some (.inr s) : Option (Int ⊕ Int))) 0 = some (p.length : Int) := by
    refine iter_to (fun j => (j : Int)) p.length n _ (fun j hj => ?_) ?_ (by omega) rfl
    · have h1 : (j : Int) < ((p ++ q).length : Int) := by rw [List.length_append]; omega
      have h2 : ix (p ++ q) (j : Int) = some p[j] := by rw [ixL (by rw [List.length_append]; omega)]; simp [hj]
      rw [if_pos (decide_eq_true h1), h2, Option.bind_some, decide_eq_true h1, decide_eq_true (hp _ (List.getElem_mem hj)), wadd1 hj (by simp only [ML]; omega)]
      rfl
    · cases q with
      | nil => simp
      | cons b q' =>
        have h1 : (p.length : Int) < ((p ++ b :: q').length : Int) := by rw [List.length_append, List.length_cons]; omega
        have h2 : ix (p ++ b :: q') (p.length : Int) = some b := by rw [ixL (by simp)]; simp
        rw [if_pos (decide_eq_true h1), h2, Option.bind_some, decide_eq_true h1, decide_eq_false (hq b q' rfl)]
        rfl
  rw [hi, Option.bind_some]
  have hs1 : slc (p ++ q) 0 (p.length : Int) = some p := by unfold slc; rw [if_pos (by rw [List.length_append]; omega)]; simp
  have hs2 : slc (p ++ q) (p.length : Int) ((p ++ q).length : Int) = some q := by unfold slc; rw [if_pos (by rw [List.length_append]; omega), Int.toNat_natCast, Int.toNat_natCast, List.take_length]; simp
  have hps := (List.pairwise_append.1 hs)
  have hgood : (∀ y ∈ q, LtC a y) → AscC (p ++ a :: q) ∧ (∀ y, y ∈ p ++ a :: q ↔ y = a ∨ y ∈ p ++ q) ∧ (p ++ a :: q).length ≤ (p ++ q).length + 1 := fun hq2 => by
    refine ⟨List.pairwise_append.2 ⟨hps.1, List.pairwise_cons.2 ⟨hq2, hps.2.1⟩, fun x hx y hy => ?_⟩, fun y => ?_, by simp; omega⟩
    · rcases List.mem_cons.1 hy with rfl | hy
      · exact hp x hx
      · exact hps.2.2 x hx y hy
    · simp only [List.mem_append, List.mem_cons]
      exact or_left_comm
  cases q with
  | nil =>
    refine ⟨_, ?_, hgood (fun y hy => by cases hy)⟩
    rw [if_neg (by simp), Option.bind_some, if_neg (by simp), hs1, Option.bind_some, hs2, Option.bind_some, app_eq (by simp) (by simp), Option.bind_some, app_eq (by simp at hl ⊢; omega) (by simp at hl ⊢; omega)]
    rfl
  | cons b q' =>
    have h1 : (p.length : Int) < ((p ++ b :: q').length : Int) := by rw [List.length_append, List.length_cons]; omega
    have h2 : ix (p ++ b :: q') (p.length : Int) = some b := by rw [ixL (by simp)]; simp
    have hb := hq b q' rfl
    have hbq := (List.pairwise_cons.1 hps.2.1).1
    rw [if_pos (decide_eq_true h1), h2, Option.bind_some, decide_eq_true h1]
    by_cases he : b = a
    · subst he
      exact ⟨p ++ b :: q', by rw [if_pos (by simp)], hs, fun y => ⟨fun h => .inr h, fun h => h.elim (fun h => by simp [h]) id⟩, by omega⟩
    · rw [if_neg (by simp [he]), hs1, Option.bind_some, hs2, Option.bind_some, app_eq (by simp at hl ⊢; omega) (by simp at hl ⊢; omega), Option.bind_some, app_eq (by simp at hl ⊢; omega) (by simp at hl ⊢; omega)]
      refine ⟨_, rfl, hgood (fun y hy => ?_)⟩
      have hab : LtC a b := by
        rcases LtC.total hb with h | h
        · exact absurd h.symm he
        · exact h
      rcases List.mem_cons.1 hy with rfl | hy
      · exact hab
      · exact hab.trans (hbq y hy)
theorem refnormal_eq {n : Nat} {l : List SConstraint} (hl : l.length ≤ 1000) (hn : 1000000 < n) : m_ref32_normal n l = some (norm l) := by
  have key : ∀ (k j fuel : Nat) (s : List SConstraint), j + k = l.length → k < fuel → AscC s → (∀ y, y ∈ s ↔ ∃ x ∈ l.take j, swp x = y) → s.length ≤ j → iter fuel (fun s => m_ref32_normal_L1 n l s.1 s.2) (s, (j : Int)) = some (norm l) := by
    intro k
    induction k with
    | zero =>
      intro j fuel s hj hf hs hm _
      obtain ⟨f, rfl⟩ : ∃ f, fuel = f + 1 := ⟨fuel - 1, by omega⟩
      obtain rfl : j = l.length := by omega
      rw [List.take_length] at hm
      rw [ascC_ext (norm_asc l) hs (fun y => by rw [norm_mem, hm]), iter]
      simp [m_ref32_normal_L1]
    | succ k ih =>
      intro j fuel s hj hf hs hm hlen
      obtain ⟨f, rfl⟩ : ∃ f, fuel = f + 1 := ⟨fuel - 1, by omega⟩
      have hjl : j < l.length := by omega
      obtain ⟨r, p1, p2, p3, p4⟩ := insert_ok (n := n) (x := l[j]) hs (by omega) hn
      rw [iter]
      simp only [m_ref32_normal_L1]
      rw [if_pos (decide_eq_true (by omega)), ixL hjl, Option.bind_some, p1, Option.bind_some, wadd1 hjl (by simp only [ML]; omega)]
      refine ih (j + 1) f r (by omega) (by omega) p2 (fun y => ?_) (by omega)
      rw [p3, hm, take_snoc hjl]
      simp only [List.mem_append, List.mem_singleton]
      constructor
      · rintro (h | ⟨x, h1, h2⟩)
        · exact ⟨l[j], .inr rfl, h.symm⟩
        · exact ⟨x, .inl h1, h2⟩
      · rintro ⟨x, h1 | h1, h2⟩
        · exact .inr ⟨x, h1, h2⟩
        · exact .inl (by rw [← h2, h1])
  unfold m_ref32_normal
  rw [show (([] : List SConstraint), (0 : Int)) = ([], ((0 : Nat) : Int)) from rfl, key l.length 0 n [] (by omega) (by omega) List.Pairwise.nil (fun y => by simp) (by simp)]
  rfl
end
section
/- The law of forms. Conditions: none. -/
open Go
theorem fu_big : 1000000 < FU := by decide
def fewB (l : List SConstraint) : Bool := (decide ((l.length : Int) ≤ (14 : Int))) || (decide ((l.length : Int) = (401 : Int)))
theorem few_len {l : List SConstraint} (h : fewB l = true) : l.length ≤ 1000 := by
  unfold fewB at h
  simp only [Bool.or_eq_true, decide_eq_true_eq] at h
  omega
end
section
/- The law of classes. Conditions: none. -/
open Go
theorem grp_congr {l : List SConstraint} {a b : Int} (h : root l a = root l b) : grp l a = grp l b :=
  ascI_ext (grp_asc l a) (grp_asc l b) fun y => by rw [grp_mem, grp_mem, h]
end
end Go.Proofs.Ytkfffaoopcnaoaa.Ab
