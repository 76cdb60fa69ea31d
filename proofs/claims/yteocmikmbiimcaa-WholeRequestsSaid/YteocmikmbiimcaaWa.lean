/- Plain laws of routes, as of chapter 56. Conditions: none. -/
import Derived.Test.YteocmikmbiimcaaNt
import Derived.Test.YteocmikmbiimcaaMi
set_option maxRecDepth 100000
namespace Go.Proofs.Yteocmikmbiimcaa.Ab
section
section
open Go

/-- Sizes of a problem that every Go value keeps. -/
structure Sane (p : SProblem) : Prop where
  c : p.fCosts.length ≤ ML
  r : p.fRoom.length ≤ ML
  cs : ∀ x ∈ p.fCosts, x.length ≤ ML

def inZ (x lo hi : Int) : Bool := decide (lo ≤ x) && decide (x ≤ hi)
def validB (p : SProblem) : Bool :=
  decide (p.fCosts.length ≤ 12) && decide (p.fRoom.length ≤ 12) && inZ p.fPenalty 0 10000 && p.fRoom.all (fun x => inZ x 0 20) &&
    p.fCosts.all (fun row => decide (row.length = p.fRoom.length) && row.all (fun c => inZ c (-1) 10000))


theorem routeValid {n : Nat} {p : SProblem} (hs : Sane p) (hn : ML < n) : m_route_Valid n p = some (validB p) := by
  have hi : ∀ x lo hi, m_route_in n x lo hi = some (inZ x lo hi) := fun _ _ _ => rfl
  have h2 : m_slices_ContainsFunc_int_intx n p.fRoom (fun y1 => m_route_Valid_2 n y1) = some (p.fRoom.any fun x => !inZ x 0 20) :=
    contains_loop n p.fRoom _ _ (fun x _ => by simp [m_route_Valid_2, hi]) hs.r (by have := hs.r; omega)
  have h1 : m_slices_ContainsFunc_int_int n p.fCosts (fun y1 => m_route_Valid_1 n y1 p) = some (p.fCosts.any fun row => !(decide (row.length = p.fRoom.length) && row.all (fun c => inZ c (-1) 10000))) := by
    refine contains_loop n p.fCosts _ _ (fun x hx => ?_) hs.c (by have := hs.c; omega)
    have h3 : m_slices_ContainsFunc_int_intx n x (fun y1 => m_route_Valid_1_1 n y1) = some (x.any fun c => !inZ c (-1) 10000) :=
      contains_loop n x _ _ (fun y _ => by simp [m_route_Valid_1_1, hi]) (hs.cs x hx) (by have := hs.cs x hx; omega)
    simp only [m_route_Valid_1, h3]
    by_cases hl : x.length = p.fRoom.length
    · simp [hl, List.not_all_eq_any_not]
    · simp [hl, show ¬ (x.length : Int) = p.fRoom.length by omega]
  unfold m_route_Valid
  rw [hi]
  simp only [h1, h2, ite_bind, Option.bind_some]
  unfold validB
  by_cases c1 : p.fCosts.length ≤ 12
  · by_cases c2 : p.fRoom.length ≤ 12
    · cases c3 : inZ p.fPenalty 0 10000
      · have e1 : ¬ (12 : Int) < p.fCosts.length := by omega
        have e2 : ¬ (12 : Int) < p.fRoom.length := by omega
        simp [e1, e2, c3]
      · have e1 : ¬ (12 : Int) < p.fCosts.length := by omega
        have e2 : ¬ (12 : Int) < p.fRoom.length := by omega
        have q1 : (p.fCosts.any fun row => !(decide (row.length = p.fRoom.length) && row.all fun c => inZ c (-1) 10000)) = !(p.fCosts.all fun row => decide (row.length = p.fRoom.length) && row.all fun c => inZ c (-1) 10000) := List.not_all_eq_any_not.symm
        have q2 : (p.fRoom.any fun x => !inZ x 0 20) = !(p.fRoom.all fun x => inZ x 0 20) := List.not_all_eq_any_not.symm
        rw [q1, q2]
        generalize (p.fCosts.all fun row => decide (row.length = p.fRoom.length) && row.all fun c => inZ c (-1) 10000) = b1
        generalize (p.fRoom.all fun x => inZ x 0 20) = b2
        cases b1 <;> cases b2 <;> simp [e1, e2, c1, c2, c3]
    · simp [c2, show (12 : Int) < p.fRoom.length by omega]
  · simp [c1, show (12 : Int) < p.fCosts.length by omega]
end
section
open Go

theorem all_anyN {α : Type} (l : List α) (d : α) (p : α → Bool) : l.all p = !anyN l.length (fun i => !p (l.getD i d)) := by
  rw [anyN_getD l d (fun x => !p x), List.not_any_eq_all_not]; simp

/-- What a valid problem is. -/
structure VP (p : SProblem) : Prop where
  c : p.fCosts.length ≤ 12
  r : p.fRoom.length ≤ 12
  p1 : 0 ≤ p.fPenalty
  p2 : p.fPenalty ≤ 10000
  rm : ∀ i, i < p.fRoom.length → 0 ≤ p.fRoom.getD i 0 ∧ p.fRoom.getD i 0 ≤ 20
  row : ∀ i, i < p.fCosts.length → (p.fCosts.getD i []).length = p.fRoom.length
  co : ∀ i j, i < p.fCosts.length → j < p.fRoom.length → -1 ≤ (p.fCosts.getD i []).getD j 0 ∧ (p.fCosts.getD i []).getD j 0 ≤ 10000
theorem inZ_t {x lo hi : Int} : inZ x lo hi = true ↔ lo ≤ x ∧ x ≤ hi := by simp [inZ]
theorem vp_of {p : SProblem} (h : validB p = true) : VP p := by
  simp only [validB, Bool.and_eq_true, decide_eq_true_eq, inZ_t, List.all_eq_true] at h
  obtain ⟨⟨⟨⟨h1, h2⟩, h3, h4⟩, h5⟩, h6⟩ := h
  refine ⟨h1, h2, h3, h4, fun i hi => h5 _ (by simp [hi]), fun i hi => (h6 _ (by simp [hi])).1, fun i j hi hj => ?_⟩
  have hh := h6 (p.fCosts.getD i []) (by simp [hi])
  
  generalize p.fCosts.getD i [] = R at *
  exact hh.2 _ (by rw [← hh.1] at hj; simp [hj])
end
section
open Go

theorem foldN_snoc {σ : Type} {g : Nat → σ → σ} : ∀ (k j : Nat) (s : σ), foldN g j (k + 1) s = g (j + k) (foldN g j k s)
  | 0, _, _ => rfl
  | k + 1, j, s => by
    rw [foldN, foldN_snoc k (j + 1), foldN, show j + 1 + k = j + (k + 1) by omega]

section
variable (p : SProblem) (a : List Int)
end

theorem setI_get {l : List Int} {i : Int} {x : Int} (h0 : 0 ≤ i) (h : i.toNat < l.length) : setI l i x = some (l.set i.toNat x) := by simp [setI, h0, h]

variable {n : Nat} {p : SProblem} {a : List Int}

end
section
open Go

section
variable (p : SProblem) (x : SPrices)
end

variable {n : Nat} {p : SProblem} {x : SPrices}

end
section
open Go

end
end
section
open Go

def badC (first : Bool) (v : Int) : Bool := !(decide (97 ≤ v) && decide (v ≤ 122)) && (first || (!decide (v = 45) && (decide (v < 48) || decide (57 < v))))
def byteN (s : List UInt8) (i : Nat) : Int := ((s.getD i 0).toNat : Int)
def nameB (s : List UInt8) : Bool := decide (1 ≤ s.length) && decide (s.length ≤ 40) && !anyN s.length (fun i => badC (decide (i = 0)) (byteN s i))

theorem progName {n : Nat} {s : List UInt8} (hs : s.length ≤ ML) (hn : ML < n) : m_request_Name n s = some (nameB s) := by
  unfold m_request_Name
  have h1 : ∀ v, m_request_Name_1 n v = some (decide (97 ≤ v) && decide (v ≤ 122)) := fun _ => rfl
  have h2 : m_slices_ContainsFunc_byte_byte n (byteL s) (fun y1 => m_request_Name_2 n y1) = some ((byteL s).any fun v => badC false v) := by
    refine contains_loop n (byteL s) _ _ (fun v _ => ?_) (by simpa [byteL] using hs) (by simp [byteL]; omega)
    simp only [m_request_Name_2, h1, Option.bind_some, badC, Bool.false_or]
    congr 1
    cases (decide (97 ≤ v) && decide (v ≤ 122)) <;> cases decide (v = 45) <;> cases (decide (v < 48) || decide (57 < v)) <;> rfl
  simp only [h2, h1]
  cases s with
  | nil => simp [nameB]
  | cons c l =>
    by_cases hl : (c :: l).length ≤ 40
    · have hx : ixS (c :: l) (0 : Int) = some (byteN (c :: l) 0) := ixS_get (i := 0) (by simp)
      have hne : ¬ ((c :: l) = ([] : List UInt8)) := by simp
      have hle : (((c :: l).length : Nat) : Int) ≤ 40 := by omega
      simp only [hne, hle, decide_false, decide_true, Bool.not_false, Bool.and_true, Bool.true_and, if_true, hx, Option.bind_some, ite_bind]
      unfold nameB
      simp only [hl, decide_true, Bool.and_true, show 1 ≤ (c :: l).length from by simp, Bool.true_and]
      have e1 : (byteL (c :: l)).any (fun v => badC false v) = anyN (c :: l).length (fun i => badC false (byteN (c :: l) i)) := by
        rw [← anyN_getD (byteL (c :: l)) (0 : Int) (fun v => badC false v)]
        simp only [byteL, List.length_map]
        refine anyN_congr fun i hi => ?_
        unfold byteN
        rw [List.getD_eq_getElem?_getD, List.getElem?_map, List.getElem?_eq_getElem hi, List.getD_eq_getElem?_getD, List.getElem?_eq_getElem hi]; rfl
      rw [e1]
      cases hq : (decide (97 ≤ byteN (c :: l) 0) && decide (byteN (c :: l) 0 ≤ 122))
      · simp only [Bool.false_eq_true, if_false, Bool.false_and, Option.bind_some]
        rw [anyN_t.2 ⟨0, by simp, by simp only [badC, hq]; rfl⟩]; rfl
      · simp only [if_true, Bool.true_and]
        congr 2
        refine anyN_congr fun i hi => ?_
        by_cases h0 : i = 0
        · subst h0; simp only [badC, hq]; rfl
        · simp [h0]
    · have hle : ¬ (((c :: l).length : Nat) : Int) ≤ 40 := by omega
      have hle2 : ¬ (l.length : Int) + 1 ≤ 40 := by simp only [List.length_cons] at hl; omega
      have hle3 : ¬ l.length ≤ 39 := by simp only [List.length_cons] at hl; omega
      simp [nameB, hle2, hle3]

def withinB (p : A2) : Bool := decide (-1000 ≤ p.e0) && decide (p.e0 ≤ 1000) && decide (-1000 ≤ p.e1) && decide (p.e1 ≤ 1000)
theorem progPlace {n : Nat} (p : A2) : m_route_place n p = some (withinB p) := by
  have hi : ∀ x lo hi, m_route_in n x lo hi = some (decide (lo ≤ x) && decide (x ≤ hi)) := fun _ _ _ => rfl
  unfold m_route_place withinB
  simp only [hi, Option.bind_some]
  cases decide (-1000 ≤ p.e0) <;> cases decide (p.e0 ≤ 1000) <;> simp
def badL (x : SLender) : Bool := !nameB x.fLibrary || !withinB x.fPlace || !(decide (0 ≤ x.fLoad) && decide (x.fLoad ≤ 100))
theorem progRow1 {n : Nat} {x : SLender} (hs : x.fLibrary.length ≤ ML) (hn : ML < n) : m_route_Row_1 n x = some (badL x) := by
  have hi : ∀ x lo hi, m_route_in n x lo hi = some (decide (lo ≤ x) && decide (x ≤ hi)) := fun _ _ _ => rfl
  unfold m_route_Row_1 badL
  simp only [progName hs hn, Option.bind_some, progPlace, hi]
  cases nameB x.fLibrary
  · rfl
  · show ((if _ then some (withinB x.fPlace) else _) : Option Bool).bind _ = _
    cases withinB x.fPlace <;> rfl

def costB (lib : List UInt8) (at_ : A2) (tried : List (List UInt8)) (x : SLender) : Int :=
  if x.fLibrary = lib ∨ x.fLibrary ∈ tried then -1
  else max (x.fPlace.e0 - at_.e0) (at_.e0 - x.fPlace.e0) + max (x.fPlace.e1 - at_.e1) (at_.e1 - x.fPlace.e1) + 10 * x.fLoad

theorem containsS {n : Nat} {l : List (List UInt8)} {s : List UInt8} (hl : l.length ≤ ML) (hn : ML < n) : m_slices_Contains_string_string n l s = some (decide (s ∈ l)) := by
  unfold m_slices_Contains_string_string m_slices_Index_string_string
  rcases iter_scan (ρ := Int ⊕ Unit) (f := fun i => m_slices_Index_string_string_L1 n l s i) l.length (fun i => decide (s = l.getD i [])) (fun i => .inl (i : Int)) (.inr ()) l.length 0 n 0 (by omega)
    (fun j hj => by
      unfold m_slices_Index_string_string_L1
      simp only [show ((j : Int) < (l.length : Int)) from by omega, decide_true, if_true, ix_get ([] : List UInt8) hj, Option.bind_some, wadd1 hj hl]
      split <;> rfl)
    (by simp [m_slices_Index_string_string_L1]) (by omega) rfl with ⟨i, _, h2, h3, _, h5⟩ | ⟨h1, h2⟩
  · rw [h5]
    have : s ∈ l := by have := of_decide_eq_true h3; rw [this]; simp [h2]
    simp [this]
  · rw [h2]
    have : s ∉ l := fun hm => by
      obtain ⟨i, hi, e⟩ := List.getElem_of_mem hm
      have := h1 i (by omega) hi
      simp [hi, e] at this
    simp [this]

/-- What a list of lenders keeps. -/
structure SaneL (l : List SLender) : Prop where
  n : l.length ≤ ML
  s : ∀ x ∈ l, x.fLibrary.length ≤ ML

def rowB (lib : List UInt8) (at_ : A2) (tried : List (List UInt8)) (l : List SLender) : List Int × Int :=
  if nameB lib = false then ([], 8) else if withinB at_ = false then ([], 2) else if decide (12 < l.length) || l.any badL then ([], 1) else (l.map (costB lib at_ tried), 0)

theorem good_of {x : SLender} (h : badL x = false) : (-1000 ≤ x.fPlace.e0 ∧ x.fPlace.e0 ≤ 1000 ∧ -1000 ≤ x.fPlace.e1 ∧ x.fPlace.e1 ≤ 1000) ∧ 0 ≤ x.fLoad ∧ x.fLoad ≤ 100 := by
  simp [badL, withinB] at h
  omega
theorem in_of {a : A2} (h : withinB a = true) : -1000 ≤ a.e0 ∧ a.e0 ≤ 1000 ∧ -1000 ≤ a.e1 ∧ a.e1 ≤ 1000 := by
  simp [withinB] at h
  omega

theorem progRow {n : Nat} {lib : List UInt8} {at_ : A2} {tried : List (List UInt8)} {l : List SLender} (h1 : lib.length ≤ ML) (h2 : tried.length ≤ ML) (hl : SaneL l) (hn : ML < n) :
    m_route_Row n lib at_ tried l = some (rowB lib at_ tried l) := by
  have hb : m_slices_ContainsFunc_route_Lender_route_Lender n l (fun y1 => m_route_Row_1 n y1) = some (l.any badL) :=
    contains_loop n l _ _ (fun x hx => progRow1 (hl.s x hx) hn) hl.n (by have := hl.n; omega)
  unfold m_route_Row rowB
  simp only [progName h1 hn, progPlace, Option.bind_some, hb]
  cases nameB lib
  · rfl
  · cases hat : withinB at_
    · rfl
    · simp only [Bool.not_true, Bool.false_eq_true, if_false, Bool.true_eq_false]
      by_cases h12 : 12 < l.length
      · have : (12 : Int) < l.length := by omega
        simp [this, h12]
      · have h12' : ¬ (12 : Int) < l.length := by omega
        simp only [h12, h12', decide_false, Bool.not_false, if_true, Bool.false_or, Option.bind_some]
        cases hbad : l.any badL
        · simp only [Bool.false_eq_true, if_false]
          have ha := in_of hat
          have hgood : ∀ x ∈ l, badL x = false := by simpa using hbad
          have hit := (iter_foldN (f := fun s : List Int × Int => m_route_Row_L1 n lib at_ tried l s.1 s.2) (ρ := List Int) (fun j s => s.length = j) (fun j s => (s, (j : Int))) (fun j s => s ++ [costB lib at_ tried (l.getD j default)]) (fun s => s) l.length l.length 0 n [] (([] : List Int), (0 : Int)) (by omega) ?_ (by intro j s _ h; simp [h]) ?_ (by have := hl.n; omega) rfl rfl).1
          · rw [hit]
            simp only [Option.bind_some]
            rw [foldN_append, List.nil_append, range_getD l default (costB lib at_ tried)]
          · rintro j s hj hlen
            unfold m_route_Row_L1
            simp only [show ((j : Int) < (l.length : Int)) from by omega, decide_true, if_true, ix_get (default : SLender) hj, Option.bind_some, wadd1 hj hl.n, containsS h2 hn, ite_bind]
            have hx := good_of (hgood (l.getD j default) (by simp [hj]))
            generalize l.getD j default = x at *
            simp only [m_route_distance, Option.bind_some]
            rw [w64 (x := x.fPlace.e0 - at_.e0) (by omega) (by omega), w64 (x := at_.e0 - x.fPlace.e0) (by omega) (by omega), w64 (x := x.fPlace.e1 - at_.e1) (by omega) (by omega), w64 (x := at_.e1 - x.fPlace.e1) (by omega) (by omega),
              w64 (x := 10 * x.fLoad) (by omega) (by omega), w64 (x := max (x.fPlace.e0 - at_.e0) (at_.e0 - x.fPlace.e0) + max (x.fPlace.e1 - at_.e1) (at_.e1 - x.fPlace.e1)) (by omega) (by omega), w64 (by omega) (by omega)]
            unfold costB
            have e : ∀ c : Int, app 8 s [c] = some (s ++ [c]) := fun c => app_one (by omega) (by omega)
            by_cases q1 : x.fLibrary = lib
            · simp [q1, e]
            · by_cases q2 : x.fLibrary ∈ tried
              · simp [q1, q2, e]
              · simp [q1, q2, e]
          · intro s _
            simp [m_route_Row_L1]
        · simp
end
end Go.Proofs.Yteocmikmbiimcaa.Ab
