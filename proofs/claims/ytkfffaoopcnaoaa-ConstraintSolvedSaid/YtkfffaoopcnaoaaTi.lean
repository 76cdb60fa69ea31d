/- Plain laws, joined. Conditions: none. -/
import Derived.Test.YtkfffaoopcnaoaaSc
import Derived.Test.YtkfffaoopcnaoaaPl
import Derived.Test.YtkfffaoopcnaoaaCp
namespace Go.Proofs.Ytkfffaoopcnaoaa.Ab
section
/- The example, and classes of numbers. Conditions: none. -/
open Go
theorem awake32 : m_law32_awake FU = some true := by decide +kernel

/-! ### maps -/
section
variable {κ ν : Type} [DecidableEq κ]
theorem mget_nil (k : κ) : mget ([] : List (κ × ν)) k = none := rfl
theorem mget_cons (x : κ × ν) (m : List (κ × ν)) (k : κ) : mget (x :: m) k = if k = x.1 then some x.2 else mget m k := by
  unfold mget
  rw [mfind]
  by_cases h : k = x.1
  · simp [h]
  · rw [if_neg h, if_neg h]
    cases mfind m k with
    | none => rfl
    | some j => simp
theorem mput_cons (x : κ × ν) (m : List (κ × ν)) (k : κ) (v : ν) : mput (x :: m) k v = if k = x.1 then (k, v) :: m else x :: mput m k v := by
  unfold mput
  rw [mfind]
  by_cases h : k = x.1
  · simp [h]
  · rw [if_neg h, if_neg h]
    cases mfind m k with
    | none => rfl
    | some j => simp
theorem mget_mput (m : List (κ × ν)) (k k' : κ) (v : ν) : mget (mput m k v) k' = if k' = k then some v else mget m k' := by
  induction m with
  | nil =>
    show mget [(k, v)] k' = _
    rw [mget_cons, mget_nil]
  | cons x m ih =>
    rw [mput_cons]
    by_cases h : k = x.1
    · rw [if_pos h, mget_cons, mget_cons]
      dsimp only
      by_cases h2 : k' = k
      · rw [if_pos h2, if_pos h2]
      · rw [if_neg h2, if_neg h2, if_neg (fun h3 => h2 (h3.trans h.symm))]
    · rw [if_neg h, mget_cons, mget_cons, ih]
      by_cases h2 : k' = x.1
      · rw [if_pos h2, if_pos h2, if_neg (fun h3 => h (h3.symm.trans h2))]
      · rw [if_neg h2, if_neg h2]
theorem mput_len (m : List (κ × ν)) (k : κ) (v : ν) : (mput m k v).length ≤ m.length + 1 := by
  unfold mput
  split <;> simp
theorem mget_mem {m : List (κ × ν)} {k : κ} {v : ν} (h : mget m k = some v) : (k, v) ∈ m := by
  induction m with
  | nil => cases h
  | cons x m ih =>
    rw [mget_cons] at h
    split at h
    · rename_i hk; injection h with h; subst h; subst hk; exact List.mem_cons_self
    · exact List.mem_cons_of_mem _ (ih h)
end

/-! ### classes -/
def stepR (r : Int → Int) (x : SConstraint) (y : Int) : Int := if x.fKind = 1 then (if r y = max (r x.fA) (r x.fB) then min (r x.fA) (r x.fB) else r y) else r y
def root (l : List SConstraint) : Int → Int := l.foldl stepR id
structure UF (c : List (Int × Int)) (r : Int → Int) : Prop where
  par : ∀ k v, mget c k = some v → v ≤ k ∧ r v = r k
  le : ∀ x, r x ≤ x
  idem : ∀ x, r (r x) = r x
  iff : ∀ x, r x = x ↔ (mget c x = none ∨ mget c x = some x)
theorem UF.nil : UF [] id := ⟨fun k v h => (by cases h), fun _ => Int.le_refl _, fun _ => rfl, fun x => by simp [mget_nil]⟩
theorem UF.merge {c : List (Int × Int)} {r : Int → Int} (h : UF c r) {M m : Int} (hle : m ≤ M) (hM : r M = M) (hm : r m = m) : UF (mput c M m) (fun y => if r y = M then m else r y) where
  par k v hg := by
    rw [mget_mput] at hg
    split at hg
    · rename_i hk; injection hg with hg; subst hg; subst hk
      refine ⟨hle, ?_⟩
      rw [if_pos hM, hm]
      split <;> rfl
    · obtain ⟨h1, h2⟩ := h.par k v hg
      refine ⟨h1, ?_⟩
      rw [h2]
  le x := by
    have := h.le x
    split <;> omega
  idem x := by
    by_cases hx : r x = M
    · rw [if_pos hx, hm]; split <;> rfl
    · rw [if_neg hx, h.idem, if_neg hx]
  iff x := by
    rw [mget_mput]
    have h1 := h.iff x
    have h2 := h.le x
    by_cases hx : x = M
    · subst hx
      rw [if_pos rfl, if_pos hM]
      simp
    · rw [if_neg hx]
      by_cases hr : r x = M
      · rw [if_pos hr, ← h1, hr]
        omega
      · rw [if_neg hr]; exact h1
def stepC (r : Int → Int) (x : SConstraint) (c : List (Int × Int)) : List (Int × Int) := if x.fKind = 1 then mput c (max (r x.fA) (r x.fB)) (min (r x.fA) (r x.fB)) else c
theorem UF.put {c : List (Int × Int)} {r : Int → Int} (h : UF c r) (x : SConstraint) : UF (stepC r x c) (stepR r x) := by
  unfold stepC
  by_cases hk : x.fKind = 1
  rotate_left
  · have : stepR r x = r := by funext y; simp [stepR, hk]
    rw [if_neg hk, this]; exact h
  have : stepR r x = fun y => if r y = max (r x.fA) (r x.fB) then min (r x.fA) (r x.fB) else r y := by funext y; simp [stepR, hk]
  rw [if_pos hk, this]
  refine h.merge (by omega) ?_ ?_
  · rcases Int.le_total (r x.fA) (r x.fB) with q | q
    · rw [Int.max_eq_right q]; exact h.idem _
    · rw [Int.max_eq_left q]; exact h.idem _
  · rcases Int.le_total (r x.fA) (r x.fB) with q | q
    · rw [Int.min_eq_left q]; exact h.idem _
    · rw [Int.min_eq_right q]; exact h.idem _
/-- The map of classes after a list of rules. -/
def cls : List SConstraint → List (Int × Int) := fun l => (l.foldl (fun (p : List (Int × Int) × (Int → Int)) x => (stepC p.2 x p.1, stepR p.2 x)) ([], id)).1
theorem cls_pair (l : List SConstraint) : l.foldl (fun (p : List (Int × Int) × (Int → Int)) x => (stepC p.2 x p.1, stepR p.2 x)) ([], id) = (cls l, root l) := by
  have : ∀ (l : List SConstraint) (c : List (Int × Int)) (r : Int → Int), (l.foldl (fun (p : List (Int × Int) × (Int → Int)) x => (stepC p.2 x p.1, stepR p.2 x)) (c, r)).2 = l.foldl stepR r := by
    intro l
    induction l with
    | nil => intro c r; rfl
    | cons x l ih => intro c r; exact ih _ _
  exact Prod.ext rfl (this l [] id)
theorem root_snoc (l : List SConstraint) (x : SConstraint) : root (l ++ [x]) = stepR (root l) x := by simp [root]
theorem cls_snoc (l : List SConstraint) (x : SConstraint) : cls (l ++ [x]) = stepC (root l) x (cls l) := by
  have := cls_pair l
  unfold cls
  rw [List.foldl_append, this]
  rfl
theorem snoc_ind {α : Type} {p : List α → Prop} (h0 : p []) (h1 : ∀ l x, p l → p (l ++ [x])) (l : List α) : p l := by
  have : ∀ k : List α, p k.reverse := fun k => by
    induction k with
    | nil => exact h0
    | cons x k ih => rw [List.reverse_cons]; exact h1 _ _ ih
  have := this l.reverse
  rwa [List.reverse_reverse] at this
theorem uf (l : List SConstraint) : UF (cls l) (root l) := by
  refine snoc_ind (p := fun l => UF (cls l) (root l)) .nil (fun l x ih => ?_) l
  rw [cls_snoc, root_snoc]; exact ih.put x
theorem cls_len (l : List SConstraint) : (cls l).length ≤ l.length := by
  refine snoc_ind (p := fun l => (cls l).length ≤ l.length) (Nat.le_refl _) (fun l x ih => ?_) l
  rw [cls_snoc, List.length_append]
  unfold stepC
  split
  · have := mput_len (cls l) (max (root l x.fA) (root l x.fB)) (min (root l x.fA) (root l x.fB))
    simp only [List.length_cons, List.length_nil]; omega
  · simp only [List.length_cons, List.length_nil]; omega
theorem of_go {n : Nat} {c : List (Int × Int)} {r : Int → Int} (h : UF c r) : ∀ (k fuel : Nat) (s : Int), (c.filter fun q => decide (q.1 ≤ s)).length ≤ k → k < fuel → iter fuel (fun s => m_constraint_classes_of_L1 n c s) s = some (r s)
  | k, 0, s, _, hf => by omega
  | k, fuel + 1, s, hk, hf => by
    rw [iter]
    simp only [m_constraint_classes_of_L1]
    cases hg : mget c s with
    | none =>
      have := (h.iff s).2 (.inl hg)
      simp [this]
    | some v =>
      by_cases hv : v = s
      · subst hv
        have := (h.iff v).2 (.inr hg)
        simp [this]
      · have h1 := h.par s v hg
        have hlt : v < s := by omega
        simp only [Option.isSome_some, Bool.not_true, Option.getD_some, hv, decide_false, Bool.or_false, Bool.false_eq_true, if_false]
        show iter fuel (fun s => m_constraint_classes_of_L1 n c s) v = _
        have hpos : (c.filter fun q => decide (q.1 ≤ v)).length < (c.filter fun q => decide (q.1 ≤ s)).length := by
          have hsub : (c.filter fun q => decide (q.1 ≤ v)) = (c.filter fun q => decide (q.1 ≤ s)).filter fun q => decide (q.1 ≤ v) := by
            rw [List.filter_filter]
            congr 1
            funext q
            rw [Bool.eq_iff_iff]
            simp only [Bool.and_eq_true, decide_eq_true_eq]; omega
          rw [hsub]
          refine List.length_filter_lt_length_iff_exists.2 ⟨(s, v), List.mem_filter.2 ⟨mget_mem hg, by simp⟩, by simp; omega⟩
        rw [of_go h (k - 1) fuel v (by omega) (by omega), h1.2]
theorem of_eq {n : Nat} {l : List SConstraint} (hl : l.length < n) (x : Int) : m_constraint_classes_of n (cls l) x = some (root l x) := by
  unfold m_constraint_classes_of
  rw [of_go (uf l) l.length n x (Nat.le_trans (List.length_filter_le _ _) (cls_len l)) hl]; rfl
theorem classesOf_eq {n : Nat} {l : List SConstraint} (hl : l.length < n) (hM : l.length ≤ ML) : m_constraint_classesOf n l = some (cls l) := by
  have q : iter n (fun s => m_constraint_classesOf_L1 n l s.1 s.2) ((0 : Int), []) = some (cls l) := by
   refine iter_to (fun j => ((j : Int), cls (l.take j))) l.length n _ (fun j hj => ?_) ?_ hl rfl
   · have hx : l.take (j + 1) = l.take j ++ [l[j]] := by rw [List.take_add_one]; simp [hj]
     simp only [m_constraint_classesOf_L1]
     rw [if_pos (by simp; omega), show ix l (j : Int) = some l[j] by simp [ix, hj], Option.bind_some, hx, cls_snoc]
     unfold stepC
     by_cases hk : l[j].fKind = 1
     · rw [if_pos (by simpa using hk), of_eq (by simp; omega), Option.bind_some, of_eq (by simp; omega), Option.bind_some, Option.bind_some, Option.bind_some, wadd1 hj hM, if_pos hk]
     · rw [if_neg (by simpa using hk), Option.bind_some, wadd1 hj hM, if_neg hk]
   · simp [m_constraint_classesOf_L1]
  unfold m_constraint_classesOf
  rw [q]; rfl

/-! ### closed sets -/
/-- A set that no rule leaves. -/
def Closed (l : List SConstraint) (S : Int → Prop) : Prop := ∀ x ∈ l, x.fKind = 1 → (S x.fA ↔ S x.fB)
theorem closed_root {l : List SConstraint} {S : Int → Prop} : Closed l S → ∀ x, S x ↔ S (root l x) := by
  refine snoc_ind (p := fun l => Closed l S → ∀ x, S x ↔ S (root l x)) (fun _ x => Iff.rfl) (fun l x ih h y => ?_) l
  have h1 := ih (fun z hz => h z (List.mem_append_left _ hz))
  rw [root_snoc]
  unfold stepR
  by_cases hk : x.fKind = 1
  rotate_left
  · rw [if_neg hk]; exact h1 y
  rw [if_pos hk]
  have h2 := h x (by simp) hk
  rw [h1 x.fA, h1 x.fB] at h2
  by_cases hy : root l y = max (root l x.fA) (root l x.fB)
  · rw [if_pos hy, h1 y, hy]
    rcases Int.le_total (root l x.fA) (root l x.fB) with q | q
    · rw [Int.max_eq_right q, Int.min_eq_left q]; exact h2.symm
    · rw [Int.max_eq_left q, Int.min_eq_right q]; exact h2
  · rw [if_neg hy]; exact h1 y
theorem root_edge {l : List SConstraint} : ∀ x ∈ l, x.fKind = 1 → root l x.fA = root l x.fB := by
  refine snoc_ind (p := fun l => ∀ x ∈ l, x.fKind = 1 → root l x.fA = root l x.fB) (fun x h => by simp at h) (fun l x ih y hy hk => ?_) l
  rw [root_snoc]
  unfold stepR
  rcases List.mem_append.1 hy with hy | hy
  · rw [ih y hy hk]
  · obtain rfl : y = x := by simpa using hy
    rw [if_pos hk, if_pos hk]
    rcases Int.le_total (root l y.fA) (root l y.fB) with q | q
    · rw [Int.max_eq_right q, Int.min_eq_left q, if_pos rfl]; split <;> omega
    · rw [Int.max_eq_left q, Int.min_eq_right q, if_pos rfl]; split <;> omega
/-- Classes are the smallest closed sets. -/
theorem root_closed {l : List SConstraint} {S : Int → Prop} (h : Closed l S) {x y : Int} (hxy : root l x = root l y) : S x ↔ S y := by
  rw [closed_root h x, closed_root h y, hxy]
end
section
/- Lists of numbers in order; what a valid list of rules is. Conditions: none. -/
open Go
theorem ixL {α : Type} {l : List α} {j : Nat} (h : j < l.length) : ix l (j : Int) = some l[j] := by simp [ix, h]
theorem take_snoc {α : Type} {l : List α} {j : Nat} (h : j < l.length) : l.take (j + 1) = l.take j ++ [l[j]] := by
  rw [List.take_add_one]; simp [h]

/-! ### validity -/
def idB (a : Int) : Bool := decide (1 ≤ a) && decide (a ≤ 1000000000)
def badC (x : SConstraint) : Bool := ((((!decide (x.fKind = 1)) && (!decide (x.fKind = 2))) || (!idB x.fA)) || (!idB x.fB)) || decide (x.fA = x.fB)
def validB (l : List SConstraint) : Bool := decide ((l.length : Int) ≤ 400) && !l.any badC
theorem valid_eq {n : Nat} {l : List SConstraint} (hn : 1000000 < n) : m_constraint_Valid n l = some (validB l) := by
  unfold m_constraint_Valid validB
  by_cases h : (l.length : Int) ≤ 400
  · have hb : m_slices_ContainsFunc_api_Constraint_api_Constraint n l (fun y1 => m_constraint_Valid_1 n y1) = some (l.any badC) :=
      contains_loop n l (fun y1 => m_constraint_Valid_1 n y1) badC (fun x _ => by
        simp only [m_constraint_Valid_1, m_constraint_id, badC, idB]
        by_cases h1 : x.fKind = 1 <;> by_cases h2 : x.fKind = 2 <;> by_cases h3 : (1 : Int) ≤ x.fA <;> by_cases h4 : x.fA ≤ 1000000000 <;> simp [h1, h2, h3, h4]) (by simp only [ML]; omega) (by omega)
    rw [if_pos (decide_eq_true h), hb]; rfl
  · rw [if_neg (by simpa using h), decide_eq_false h]; rfl
theorem refvalid_eq {n : Nat} {l : List SConstraint} (hl : l.length ≤ 1000) (hn : 1000000 < n) : m_ref32_Valid n l = some (validB l) := by
  have q : iter n (fun s => m_ref32_Valid_L1 n l s) 0 = some (if anyN l.length (fun j => badC (l.getD j default)) = true then .inl false else .inr ()) := by
    refine iter_any (f := fun s => m_ref32_Valid_L1 n l s) l.length n (fun j => badC (l.getD j default)) (.inl false) (.inr ()) (fun j hj => ?_) (by simp [m_ref32_Valid_L1]) (by omega)
    simp only [m_ref32_Valid_L1]
    rw [if_pos (decide_eq_true (by omega)), ix_get default hj, Option.bind_some, wadd1 hj (by simp only [ML]; omega)]
    generalize l.getD j default = x
    have hb : ((((((!decide (x.fKind = (1 : Int))) && (!decide (x.fKind = (2 : Int)))) || (decide (x.fA < (1 : Int)))) || (decide ((1000000000 : Int) < x.fA))) || (decide (x.fB < (1 : Int)))) || (decide ((1000000000 : Int) < x.fB)) || (decide (x.fA = x.fB))) = badC x := by
      rw [Bool.eq_iff_iff]
      simp [badC, idB]
      omega
    rw [hb]
    cases badC x <;> rfl
  unfold m_ref32_Valid validB
  rw [q, anyN_getD l default badC]
  cases l.any badC <;> simp
theorem valid_mem {l : List SConstraint} (h : validB l = true) : l.length ≤ 400 ∧ ∀ x ∈ l, (x.fKind = 1 ∨ x.fKind = 2) ∧ 1 ≤ x.fA ∧ x.fA ≤ 1000000000 ∧ 1 ≤ x.fB ∧ x.fB ≤ 1000000000 ∧ x.fA ≠ x.fB := by
  unfold validB at h
  simp only [Bool.and_eq_true, decide_eq_true_eq, Bool.not_eq_true', List.any_eq_false] at h
  refine ⟨by omega, fun x hx => ?_⟩
  have := h.2 x hx
  simp [badC, idB] at this
  omega

/-! ### lists of numbers in order -/
abbrev AscI (l : List Int) : Prop := l.Pairwise (· < ·)
theorem ascI_ext {l k : List Int} (h1 : AscI l) (h2 : AscI k) (h : ∀ y, y ∈ l ↔ y ∈ k) : l = k := asc_ext (lt := fun a b : Int => a < b) (by omega) (fun h h' => by omega) h1 h2 h
theorem has_eq {n : Nat} {l : List Int} {a : Int} (hl : l.length ≤ 100000) (hn : 1000000 < n) : m_ref32_Has n l a = some (decide (a ∈ l)) := by
  have q : iter n (fun s => m_ref32_Has_L1 n l a s) 0 = some (if anyN l.length (fun j => decide (l.getD j default = a)) = true then .inl true else .inr ()) := by
    refine iter_any (f := fun s => m_ref32_Has_L1 n l a s) l.length n (fun j => decide (l.getD j default = a)) (.inl true) (.inr ()) (fun j hj => ?_) (by simp [m_ref32_Has_L1]) (by omega)
    simp only [m_ref32_Has_L1]
    rw [if_pos (decide_eq_true (by omega)), ix_get default hj, Option.bind_some, wadd1 hj (by simp only [ML]; omega)]
    split <;> rfl
  unfold m_ref32_Has
  rw [q, anyN_getD l default (fun y => decide (y = a))]
  have : (l.any fun y => decide (y = a)) = decide (a ∈ l) := by
    rw [Bool.eq_iff_iff, List.any_eq_true, decide_eq_true_iff]
    exact ⟨fun ⟨x, h1, h2⟩ => by rw [← of_decide_eq_true h2]; exact h1, fun h => ⟨a, h, by simp⟩⟩
  rw [this]
  by_cases h : a ∈ l <;> simp [h]
end
section
/- Records, groups and what keeps apart. Conditions: none. -/
open Go

/-! ### the numbers that rules tie -/
def endsC (x : SConstraint) : List Int := if x.fKind = 1 then [x.fA, x.fB] else []
def ends (l : List SConstraint) : List Int := l.flatMap endsC
theorem ends_mem {l : List SConstraint} {y : Int} : y ∈ ends l ↔ ∃ x ∈ l, x.fKind = 1 ∧ (y = x.fA ∨ y = x.fB) := by
  unfold ends endsC
  simp only [List.mem_flatMap]
  constructor
  · rintro ⟨x, hx, h⟩
    split at h
    · rename_i hk; exact ⟨x, hx, hk, by simpa using h⟩
    · cases h
  · rintro ⟨x, hx, hk, h⟩
    exact ⟨x, hx, by rw [if_pos hk]; simpa using h⟩
theorem ends_len (l : List SConstraint) : (ends l).length ≤ 2 * l.length := by
  unfold ends
  induction l with
  | nil => simp
  | cons x l ih =>
    rw [List.flatMap_cons, List.length_append, List.length_cons]
    have : (endsC x).length ≤ 2 := by unfold endsC; split <;> simp
    omega
def recs (l : List SConstraint) : List Int := cmpct (isort intLt (ends l))
theorem recs_asc (l : List SConstraint) : AscI (recs l) := by
  refine cmpct_asc (lt := fun a b : Int => a < b) (fun _ _ _ h h' => by omega) (fun _ _ h => by omega) ?_
  have := isort_sorted intLt_swo (ends l)
  refine this.imp (fun {a b} h => ?_)
  simpa [intLt] using h
theorem recs_mem {l : List SConstraint} {y : Int} : y ∈ recs l ↔ y ∈ ends l := by
  unfold recs
  rw [cmpct_mem, (isort_perm _ _).mem_iff]
theorem recs_len (l : List SConstraint) : (recs l).length ≤ 2 * l.length := by
  have h1 := cmpct_len (isort intLt (ends l))
  rw [isort_len] at h1
  have := ends_len l
  unfold recs; omega
theorem compact_int {n : Nat} {c : List Int} (h : c.length ≤ 1000000) (hn : 1000000 < n) : m_slices_Compact_int_int n c = some (cmpct c) := by
  have h2 : ∀ s2, m_slices_Compact_int_int_L1 n c s2 = cpL1 n 0 c s2 := fun s2 => by
    unfold m_slices_Compact_int_int_L1 cpL1; rfl
  have : m_slices_Compact_int_int n c = cpM n 0 c := by
    unfold m_slices_Compact_int_int cpM
    simp only [h2]
    cases iter n (fun s => cpL1 n 0 c s) 1 with
    | none => rfl
    | some r => cases r <;> rfl
  rw [this, cpM_eq (by simp only [ML]; omega) (by omega)]
theorem records_eq {n : Nat} {l : List SConstraint} (hl : l.length ≤ 1000) (hn : 1000000 < n) : m_constraint_records n l = some (recs l) := by
  have q : iter n (fun s => m_constraint_records_L1 n l s.1 s.2) ((0 : Int), []) = some (ends l) := by
    refine iter_to (f := fun s => m_constraint_records_L1 n l s.1 s.2) (fun j => ((j : Int), ends (l.take j))) l.length n _ (fun j hj => ?_) ?_ (by omega) rfl
    · have e : ends (l.take (j + 1)) = ends (l.take j) ++ endsC l[j] := by unfold ends; rw [take_snoc hj, List.flatMap_append, List.flatMap_singleton]
      have e2 := ends_len (l.take j)
      rw [List.length_take] at e2
      simp only [m_constraint_records_L1]
      rw [if_pos (decide_eq_true (by omega)), ixL hj, Option.bind_some, wadd1 hj (by simp only [ML]; omega), e]
      unfold endsC
      by_cases hk : l[j].fKind = 1
      · rw [if_pos (decide_eq_true hk), if_pos hk, app_eq (by simp; omega) (by simp; omega)]; rfl
      · rw [if_neg (by simpa using hk), if_neg hk]; simp
    · simp [m_constraint_records_L1]
  have hs : m_slices_Sort_int_int n (ends l) = some (isort intLt (ends l)) := by
    have := ends_len l
    unfold m_slices_Sort_int_int; rw [if_pos (by omega)]
  unfold m_constraint_records
  rw [q, Option.bind_some, hs, Option.bind_some, compact_int (by rw [isort_len]; have := ends_len l; omega) hn]
  rfl

/-! ### who is alone -/
theorem alone_closed {l : List SConstraint} {a : Int} (h : a ∉ ends l) : Closed l fun y => y = a := fun x hx hk => by
  constructor
  · intro e; exact absurd (ends_mem.2 ⟨x, hx, hk, .inl e.symm⟩) h
  · intro e; exact absurd (ends_mem.2 ⟨x, hx, hk, .inr e.symm⟩) h
theorem alone_root {l : List SConstraint} {a y : Int} (h : a ∉ ends l) (e : root l y = root l a) : y = a := (root_closed (alone_closed h) e).2 rfl
/-- The class of a number, in order. -/
def grp (l : List SConstraint) (a : Int) : List Int := if a ∈ recs l then (recs l).filter fun y => decide (root l y = root l a) else [a]
theorem grp_mem {l : List SConstraint} {a y : Int} : y ∈ grp l a ↔ root l y = root l a := by
  unfold grp
  by_cases h : a ∈ recs l
  · rw [if_pos h, List.mem_filter, decide_eq_true_eq]
    refine ⟨fun h => h.2, fun e => ⟨?_, e⟩⟩
    by_cases hy : y ∈ recs l
    · exact hy
    · rw [alone_root (fun h => hy (recs_mem.2 h)) e.symm] at h
      exact absurd h hy
  · rw [if_neg h, List.mem_singleton]
    exact ⟨fun e => by rw [e], fun e => alone_root (fun h2 => h (recs_mem.2 h2)) e⟩
theorem grp_asc (l : List SConstraint) (a : Int) : AscI (grp l a) := by
  unfold grp
  split
  · exact (recs_asc l).filter _
  · exact List.pairwise_singleton _ _
theorem grp_len (l : List SConstraint) (a : Int) : (grp l a).length ≤ 2 * l.length + 1 := by
  unfold grp
  have := recs_len l
  split
  · have := List.length_filter_le (fun y => decide (root l y = root l a)) (recs l); omega
  · simp

/-! ### the reference's group -/
/-- A list within the class of a. -/
structure InG (l : List SConstraint) (a : Int) (s : List Int) : Prop where
  asc : AscI s
  mem : a ∈ s
  sub : ∀ y ∈ s, root l y = root l a
theorem ascI_filter {s t : List Int} (h : AscI s) (ht : AscI t) (hs : ∀ y ∈ s, y ∈ t) : s = t.filter fun y => decide (y ∈ s) :=
  ascI_ext h (ht.filter _) fun y => by
    rw [List.mem_filter, decide_eq_true_eq]
    exact ⟨fun h => ⟨hs y h, h⟩, fun h => h.2⟩
theorem ascI_sub_len {s t : List Int} (h : AscI s) (ht : AscI t) (hs : ∀ y ∈ s, y ∈ t) : s.length ≤ t.length := by
  have := congrArg List.length (ascI_filter h ht hs)
  have := List.length_filter_le (fun y => decide (y ∈ s)) t
  omega
theorem InG.len {l : List SConstraint} {a : Int} {s : List Int} (h : InG l a s) : s.length ≤ 2 * l.length + 1 :=
  Nat.le_trans (ascI_sub_len h.asc (grp_asc l a) fun y hy => grp_mem.2 (h.sub y hy)) (grp_len l a)
end
section
/- Groups, and what keeps apart, in the program. Conditions: none. -/
open Go

theorem index_ok {n : Nat} {c : List Int} {c2 : List (Int × Int)} {c3 : Int} {p : Int → Bool} (hp : ∀ y, m_constraint_Group_1 n y c2 c3 = some (p y)) (hl : c.length ≤ 100000) (hn : 1000000 < n) :
    (∃ i, i < c.length ∧ m_slices_IndexFunc_int_int n c c2 c3 = some (i : Int) ∧ p (c.getD i 0) = true ∧ ∀ j, j < i → p (c.getD j 0) = false) ∨ (m_slices_IndexFunc_int_int n c c2 c3 = some (-1) ∧ ∀ j, j < c.length → p (c.getD j 0) = false) := by
  unfold m_slices_IndexFunc_int_int
  rcases iter_scan (f := fun s => m_slices_IndexFunc_int_int_L1 n c c2 c3 s) c.length (fun j => p (c.getD j 0)) (fun i => .inl (i : Int)) (.inr ()) c.length 0 n 0 (by omega) (fun j hj => by
      simp only [m_slices_IndexFunc_int_int_L1]
      rw [if_pos (decide_eq_true (by omega)), ix_get 0 hj, Option.bind_some, Option.bind_some, hp, Option.bind_some, wadd1 hj (by simp only [ML]; omega)]
      split <;> rfl) (by simp [m_slices_IndexFunc_int_int_L1]) (by omega) rfl with ⟨i, _, h2, h3, h4, h5⟩ | ⟨h1, h2⟩
  · rw [h5]; exact .inl ⟨i, h2, rfl, h3, fun j hj => h4 j (by omega) hj⟩
  · rw [h2]; exact .inr ⟨rfl, fun j hj => h1 j (by omega) hj⟩
theorem del_eq {n : Nat} {c : List Int} {c2 : List (Int × Int)} {c3 : Int} {p : Int → Bool} (hp : ∀ y, m_constraint_Group_1 n y c2 c3 = some (p y)) (hl : c.length ≤ 100000) (hn : 1000000 < n) :
    m_slices_DeleteFunc_int_int n c c2 c3 = some (c.filter fun y => !p y) := by
  unfold m_slices_DeleteFunc_int_int
  have hgd : ∀ j (h : j < c.length), c.getD j 0 = c[j] := fun j h => by simp [h]
  rcases index_ok hp hl hn with ⟨i, h1, h2, hpi, h3⟩ | ⟨h2, h3⟩
  rotate_left
  · rw [h2, Option.bind_some, if_pos (by decide)]
    congr 1
    refine (List.filter_eq_self.2 fun y hy => ?_).symm
    obtain ⟨j, hj, rfl⟩ := List.getElem_of_mem hy
    rw [← hgd j hj, h3 j hj]; rfl
  rw [h2, Option.bind_some, if_neg (by simp), wadd1 h1 (by simp only [ML]; omega)]
  have key : ∀ (k j fuel a : Nat) (s : List Int), j + k = c.length → k < fuel → a ≤ j → s.length = c.length → s.take a = (c.take j).filter (fun y => !p y) → s.drop j = c.drop j →
      ∃ a' s', iter fuel (fun s => m_slices_DeleteFunc_int_int_L1 n c2 c3 s.1 s.2.1 s.2.2) ((a : Int), (j : Int), s) = some (((a' : Nat) : Int), s') ∧ a' ≤ c.length ∧ s'.length = c.length ∧ s'.take a' = c.filter fun y => !p y := by
    intro k
    induction k with
    | zero =>
      intro j fuel a s hj hf ha hs ht hd
      obtain ⟨f, rfl⟩ : ∃ f, fuel = f + 1 := ⟨fuel - 1, by omega⟩
      obtain rfl : j = c.length := by omega
      refine ⟨a, s, ?_, ha, hs, by rwa [List.take_length] at ht⟩
      rw [iter]; simp [m_slices_DeleteFunc_int_int_L1, hs]
    | succ k ih =>
      intro j fuel a s hj hf ha hs ht hd
      obtain ⟨f, rfl⟩ : ∃ f, fuel = f + 1 := ⟨fuel - 1, by omega⟩
      have hjl : j < c.length := by omega
      have hsj : s[j]'(by omega) = c[j] := by
        have := congrArg (fun l : List Int => l[0]?) hd
        simpa [hs, hjl] using this
      have hdrop : s.drop (j + 1) = c.drop (j + 1) := by
        have := congrArg (List.drop 1) hd
        rwa [List.drop_drop, List.drop_drop] at this
      have hff : (c.take (j + 1)).filter (fun y => !p y) = (c.take j).filter (fun y => !p y) ++ if p c[j] = true then [] else [c[j]] := by
        rw [take_snoc hjl, List.filter_append]
        congr 1
        cases hpq : p c[j] <;> simp [hpq]
      rw [iter]
      simp only [m_slices_DeleteFunc_int_int_L1]
      rw [if_pos (decide_eq_true (by omega)), ixL (by omega), Option.bind_some, Option.bind_some, hsj, hp, Option.bind_some, wadd1 hjl (by simp only [ML]; omega)]
      cases hpc : p c[j] with
      | true =>
        simp only [Bool.not_true, Bool.false_eq_true, if_false, Option.bind_some]
        refine ih (j + 1) f a s (by omega) (by omega) (by omega) hs ?_ hdrop
        rw [hff, if_pos hpc, List.append_nil, ht]
      | false =>
        simp only [Bool.not_false, if_true]
        rw [ixL (show a < s.length by omega), Option.bind_some, show setI s (a : Int) c[j] = some (s.set a c[j]) by unfold setI; rw [if_pos ⟨by omega, by simp; omega⟩]; simp, Option.bind_some, wadd1 (show a < c.length by omega) (by simp only [ML]; omega)]
        simp only [Option.bind_some]
        refine ih (j + 1) f (a + 1) (s.set a c[j]) (by omega) (by omega) (by omega) (by simp [hs]) ?_ ?_
        · rw [hff, hpc]
          simp only [Bool.false_eq_true, if_false]
          rw [take_snoc (by simp; omega), List.getElem_set_self, List.take_set_of_le (Nat.le_refl a), ht]
        · rw [List.drop_set_of_lt (by omega), hdrop]
  obtain ⟨a', s', e, q1, q2, q3⟩ := key (c.length - (i + 1)) (i + 1) n i c (by omega) (by omega) (by omega) rfl (by
    rw [take_snoc h1, List.filter_append, List.filter_eq_self.2 (fun y hy => by
      obtain ⟨j, hj, rfl⟩ := List.getElem_of_mem hy
      rw [List.length_take] at hj
      have := h3 j (by omega)
      rw [hgd j (by omega)] at this
      simp [this])]
    rw [hgd i h1] at hpi
    simp [hpi]) rfl
  rw [e, Option.bind_some, show slc s' (a' : Int) (s'.length : Int) = some (s'.drop a') by unfold slc; rw [if_pos (by omega)]; simp, Option.bind_some]
  have hcl : (clrL s' a' (s'.drop a').length 0).take a' = s'.take a' := by
    unfold clrL
    rw [List.append_assoc, List.take_append_of_le_length (by simp; omega), List.take_take, Nat.min_self]
  have hle : a' ≤ (clrL s' a' (s'.drop a').length 0).length := by
    rw [clrL_len (by simp; omega)]; omega
  rw [Int.toNat_natCast, show slc (clrL s' a' (s'.drop a').length 0) 0 (a' : Int) = some (s'.take a') by unfold slc; rw [if_pos (by omega), Int.toNat_natCast, hcl]; rfl, q3]
  rfl
theorem group1_eq {n : Nat} {l : List SConstraint} (hl : l.length ≤ 1000) (hn : 1000000 < n) (y a : Int) : m_constraint_Group_1 n y (cls l) a = some (!decide (root l y = root l a)) := by
  unfold m_constraint_Group_1
  rw [of_eq (by omega), Option.bind_some, of_eq (by omega)]; rfl
theorem group_eq {n : Nat} {l : List SConstraint} {a : Int} (hv : validB l = true) (hn : 1000000 < n) : m_constraint_Group n l a = some (grp l a, 0) := by
  have hl := (valid_mem hv).1
  have hr := recs_len l
  unfold m_constraint_Group
  rw [valid_eq hn, Option.bind_some, hv, if_neg (by decide), classesOf_eq (by omega) (by simp only [ML]; omega), Option.bind_some, records_eq (by omega) hn, Option.bind_some, del_eq (p := fun y => !decide (root l y = root l a)) (fun y => group1_eq (by omega) hn y a) (by omega) hn, Option.bind_some]
  have he : ((recs l).filter fun y => !(!decide (root l y = root l a))) = (recs l).filter fun y => decide (root l y = root l a) := by simp
  rw [he]
  unfold grp
  by_cases h : a ∈ recs l
  · rw [if_pos h]
    have hne : ((recs l).filter fun y => decide (root l y = root l a)) ≠ [] := fun h0 => by
      have : a ∈ (recs l).filter fun y => decide (root l y = root l a) := List.mem_filter.2 ⟨h, by simp⟩
      rw [h0] at this; cases this
    have := List.length_pos_iff.2 hne
    rw [if_neg (by simp only [decide_eq_true_eq]; omega)]
    rfl
  · rw [if_neg h]
    have h0 : ((recs l).filter fun y => decide (root l y = root l a)) = [] := List.filter_eq_nil_iff.2 fun y hy => by
      rw [decide_eq_true_eq]
      intro e
      have := alone_root (fun h2 => h (recs_mem.2 h2)) e
      rw [this] at hy; exact h hy
    rw [h0]; rfl
/-! ### apart -/
def apC (r : Int → Int) (a b : Int) (x : SConstraint) : Bool := decide (x.fKind = 2) && ((decide (r x.fA = r a) && decide (r x.fB = r b)) || (decide (r x.fA = r b) && decide (r x.fB = r a)))
def apL (l : List SConstraint) (a b : Int) : Bool := l.any (apC (root l) a b)
theorem apart_eq {n : Nat} {l : List SConstraint} {a b : Int} (hl : l.length ≤ 1000) (hn : 1000000 < n) : m_constraint_apart n l (cls l) a b = some (apL l a b) := by
  have hc : m_slices_ContainsFunc_api_Constraint_api_Constraint n l (fun y1 => m_constraint_apart_1 n y1 (cls l) (root l a) (root l b)) = some (l.any (apC (root l) a b)) :=
    contains_loop n l (fun y1 => m_constraint_apart_1 n y1 (cls l) (root l a) (root l b)) (apC (root l) a b) (fun x _ => by
      simp only [m_constraint_apart_1]
      rw [of_eq (by omega), Option.bind_some, of_eq (by omega)]; rfl) (by simp only [ML]; omega) (by omega)
  unfold m_constraint_apart
  rw [of_eq (by omega), Option.bind_some, of_eq (by omega), Option.bind_some, hc]; rfl
theorem Apart_eq {n : Nat} {l : List SConstraint} {a b : Int} (hn : 1000000 < n) : m_constraint_Apart n l a b = some (if validB l = true then (apL l a b, 0) else (false, 1)) := by
  unfold m_constraint_Apart
  rw [valid_eq hn, Option.bind_some]
  cases hv : validB l with
  | false => rfl
  | true =>
    have hl := (valid_mem hv).1
    rw [if_neg (by decide), classesOf_eq (by omega) (by simp only [ML]; omega), Option.bind_some, apart_eq (by omega) hn]; rfl
end
section
/- All groups. Conditions: none. -/
open Go
def tops (l : List SConstraint) (p : List Int) : List Int := p.filter fun i => decide (root l i = i)
def rowsOf (l : List SConstraint) (p : List Int) : List (List Int) := (tops l p).map fun i => p.filter fun y => decide (root l y = i)
structure GrI (l : List SConstraint) (j : Nat) (m : List (Int × Int)) (rows : List (List Int)) : Prop where
  rows : rows = rowsOf l ((recs l).take j)
  at_ : ∀ k (h : k < (tops l ((recs l).take j)).length), mget m (tops l ((recs l).take j))[k] = some (k : Int)
  none_ : ∀ i, i ∉ tops l ((recs l).take j) → mget m i = none
end
section
/- The normal form of rules. Conditions: none. -/
open Go
/-! ### sameness -/
/-! ### the reference's groups -/
end
section
/- The normal form of rules. Conditions: none. -/
open Go
def LtC (x y : SConstraint) : Prop := x.fKind < y.fKind ∨ (x.fKind = y.fKind ∧ (x.fA < y.fA ∨ (x.fA = y.fA ∧ x.fB < y.fB)))
instance (x y : SConstraint) : Decidable (LtC x y) := by unfold LtC; infer_instance
theorem LtC.trans {x y z : SConstraint} (h : LtC x y) (h' : LtC y z) : LtC x z := by unfold LtC at *; omega
theorem LtC.irrefl {x : SConstraint} : ¬ LtC x x := by unfold LtC; omega
def swp (x : SConstraint) : SConstraint := ⟨x.fKind, min x.fA x.fB, max x.fA x.fB⟩
def norm (l : List SConstraint) : List SConstraint := cmpct (isort (ltOf cfC) (l.map swp))
theorem norm_mem {l : List SConstraint} {y : SConstraint} : y ∈ norm l ↔ ∃ x ∈ l, swp x = y := by
  unfold norm
  rw [cmpct_mem, (isort_perm _ _).mem_iff, List.mem_map]
theorem norm_len (l : List SConstraint) : (norm l).length ≤ l.length := by
  have h1 := cmpct_len (isort (ltOf cfC) (l.map swp))
  rw [isort_len, List.length_map] at h1
  exact h1
theorem compact_c {n : Nat} {c : List SConstraint} (h : c.length ≤ 1000000) (hn : 1000000 < n) : m_slices_Compact_api_Constraint_api_Constraint n c = some (cmpct c) := by
  have h2 : ∀ s2, m_slices_Compact_api_Constraint_api_Constraint_L1 n c s2 = cpL1 n ⟨0, 0, 0⟩ c s2 := fun s2 => by
    unfold m_slices_Compact_api_Constraint_api_Constraint_L1 cpL1; rfl
  have : m_slices_Compact_api_Constraint_api_Constraint n c = cpM n ⟨0, 0, 0⟩ c := by
    unfold m_slices_Compact_api_Constraint_api_Constraint cpM
    simp only [h2]
    cases iter n (fun s => cpL1 n ⟨0, 0, 0⟩ c s) 1 with
    | none => rfl
    | some r => cases r <;> rfl
  rw [this, cpM_eq (by simp only [ML]; omega) (by omega)]
theorem normal_eq {n : Nat} {l : List SConstraint} (hl : l.length ≤ 1000) (hn : 1000000 < n) : m_constraint_normal n l = some (norm l) := by
  have q : iter n (fun s => m_constraint_normal_L1 n l s.1 s.2) ((0 : Int), l) = some (l.map swp) := by
    refine iter_to (f := fun s => m_constraint_normal_L1 n l s.1 s.2) (fun j => ((j : Int), (l.take j).map swp ++ l.drop j)) l.length n _ (fun j hj => ?_) ?_ (by omega) (by simp)
    · have hd : l.drop j = l[j] :: l.drop (j + 1) := List.drop_eq_getElem_cons hj
      have hlen : ((l.take j).map swp).length = j := by simp; omega
      have hix : ∀ (x : SConstraint) (t : List SConstraint), ix ((l.take j).map swp ++ x :: t) (j : Int) = some x := fun x t => by
        rw [ixL (by rw [List.length_append, hlen, List.length_cons]; omega), List.getElem_append_right (by omega)]
        simp only [hlen, Nat.sub_self, List.getElem_cons_zero]
      have hset : ∀ (x y : SConstraint) (t : List SConstraint), setI ((l.take j).map swp ++ x :: t) (j : Int) y = some ((l.take j).map swp ++ y :: t) := fun x y t => by
        unfold setI
        rw [if_pos ⟨by omega, by rw [Int.toNat_natCast, List.length_append, hlen, List.length_cons]; omega⟩, Int.toNat_natCast, List.set_append_right _ _ (by omega), hlen, Nat.sub_self]
        rfl
      simp only [m_constraint_normal_L1]
      rw [if_pos (decide_eq_true (by omega)), hd, hix, Option.bind_some, Option.bind_some, Option.bind_some, Option.bind_some, hset, Option.bind_some, hix, Option.bind_some, Option.bind_some, hset, Option.bind_some, wadd1 hj (by simp only [ML]; omega), take_snoc hj, List.map_append, List.append_assoc]
      rfl
    · simp [m_constraint_normal_L1]
  have hc : m_slices_Clone_api_Constraint_api_Constraint n l = some l := by
    unfold m_slices_Clone_api_Constraint_api_Constraint
    rw [app_eq (by simp; omega) (by simp; omega)]; rfl
  have hs : m_slices_SortFunc_api_Constraint_api_Constraint n (l.map swp) = some (isort (ltOf cfC) (l.map swp)) := by
    unfold m_slices_SortFunc_api_Constraint_api_Constraint; rw [if_pos (by simp; omega)]
  unfold m_constraint_normal
  rw [hc, Option.bind_some, q, Option.bind_some, hs, Option.bind_some, compact_c (by rw [isort_len]; simp; omega) hn]
  rfl
end
section
/- The law of forms. Conditions: none. -/
open Go
theorem fu_big : 1000000 < FU := by decide
end
section
/- The law of classes. Conditions: none. -/
open Go
theorem apL_swap {l : List SConstraint} {a b x y : Int} (h1 : root l x = root l a) (h2 : root l y = root l b) : apL l y x = apL l a b := by
  unfold apL apC
  rw [h1, h2]
  congr 1
  funext c
  rw [Bool.or_comm]
theorem Group_ok {n : Nat} {l : List SConstraint} (hv : validB l = true) (hn : 1000000 < n) (a : Int) : m_constraint_Group n l a = some (grp l a, 0) := group_eq hv hn
theorem Apart_ok {n : Nat} {l : List SConstraint} (hv : validB l = true) (hn : 1000000 < n) (a b : Int) : m_constraint_Apart n l a b = some (apL l a b, 0) := by rw [Apart_eq hn, hv]; rfl
end
end Go.Proofs.Ytkfffaoopcnaoaa.Ab
