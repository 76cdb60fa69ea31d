/- Chapter 56: names, places and Row of the program and of the reference. Conditions: none. -/
import Derived.Test.YthjinjinnklkgaaPe
set_option maxRecDepth 100000
namespace Go.Proofs.Ythjinjinnklkgaa.Ab
open Go

def badC (first : Bool) (v : Int) : Bool := !(decide (97 ≤ v) && decide (v ≤ 122)) && (first || (!decide (v = 45) && (decide (v < 48) || decide (57 < v))))
def byteN (s : List UInt8) (i : Nat) : Int := ((s.getD i 0).toNat : Int)
def nameB (s : List UInt8) : Bool := decide (1 ≤ s.length) && decide (s.length ≤ 40) && !anyN s.length (fun i => badC (decide (i = 0)) (byteN s i))

theorem refName {n : Nat} {s : List UInt8} (hs : s.length ≤ ML) (hn : ML < n) : m_ref55_Name n s = some (nameB s) := by
  unfold m_ref55_Name
  have h1 : iter n (fun i => m_ref55_Name_L1 n s i) (0 : Int) = some (if anyN s.length (fun i => badC (decide (i = 0)) (byteN s i)) = true then .inl false else .inr ()) := by
    refine iter_any (ρ := Bool ⊕ Unit) s.length n _ _ _ (fun j hj => ?_) ?_ (by omega)
    · unfold m_ref55_Name_L1 badC byteN
      simp only [show ((j : Int) < (s.length : Int)) from by omega, decide_true, if_true, ixS_get hj, Option.bind_some, wadd1 hj hs, ite_bind]
      generalize ((s.getD j 0).toNat : Int) = v
      have hj0 : decide ((j : Int) = 0) = decide (j = 0) := by
        by_cases h : j = 0
        · simp [h]
        · rw [decide_eq_false h, decide_eq_false (by omega)]
      rw [hj0]
      generalize decide (j = 0) = b
      by_cases c1 : 97 ≤ v
      · by_cases c2 : v ≤ 122
        · simp [c1, c2]
        · cases b <;> by_cases c3 : v = 45 <;> by_cases c4 : v < 48 <;> by_cases c5 : 57 < v <;> simp [c1, c2, c3, c4, c5]
      · cases b <;> by_cases c3 : v = 45 <;> by_cases c4 : v < 48 <;> by_cases c5 : 57 < v <;> simp [c1, c3, c4, c5] <;> omega
    · simp [m_ref55_Name_L1]
  rw [h1]
  unfold nameB
  cases anyN s.length (fun i => badC (decide (i = 0)) (byteN s i))
  · simp only [Bool.false_eq_true, if_false, Option.bind_some, Bool.not_false, Bool.and_true]
    congr 1
    rw [Bool.eq_iff_iff]; simp; omega
  · simp

theorem progName {n : Nat} {s : List UInt8} (hs : s.length ≤ ML) (hn : ML < n) : m_request_Name n s = some (nameB s) := by
  unfold m_request_Name
  have h1 : ∀ v, m_request_Name_1 n v = some (decide (97 ≤ v) && decide (v ≤ 122)) := fun _ => rfl
  have h2 : m_slices_ContainsFunc_byte_byte n (byteL s) (fun y1 => m_request_Name_2 n y1) = some ((byteL s).any fun v => badC false v) := by
    refine contains_loop n (byteL s) _ _ (fun v _ => ?_) (by simpa [byteL] using hs) (by simp [byteL]; omega)
    simp only [m_request_Name_2, h1, Option.bind_some, badC, Bool.false_or]
    congr 1
    cases (decide (97 ≤ v) && decide (v ≤ 122)) <;> cases decide (v = 45) <;> cases (decide (v < 48) || decide (57 < v)) <;> rfl
  simp only [h2, h1]
  cases s with
  | nil => simp [nameB]
  | cons c l =>
    by_cases hl : (c :: l).length ≤ 40
    · have hx : ixS (c :: l) (0 : Int) = some (byteN (c :: l) 0) := ixS_get (i := 0) (by simp)
      have hne : ¬ ((c :: l) = ([] : List UInt8)) := by simp
      have hle : (((c :: l).length : Nat) : Int) ≤ 40 := by omega
      simp only [hne, hle, decide_false, decide_true, Bool.not_false, Bool.and_true, Bool.true_and, if_true, hx, Option.bind_some, ite_bind]
      unfold nameB
      simp only [hl, decide_true, Bool.and_true, show 1 ≤ (c :: l).length from by simp, Bool.true_and]
      have e1 : (byteL (c :: l)).any (fun v => badC false v) = anyN (c :: l).length (fun i => badC false (byteN (c :: l) i)) := by
        rw [← anyN_getD (byteL (c :: l)) (0 : Int) (fun v => badC false v)]
        simp only [byteL, List.length_map]
        refine anyN_congr fun i hi => ?_
        unfold byteN
        rw [List.getD_eq_getElem?_getD, List.getElem?_map, List.getElem?_eq_getElem hi, List.getD_eq_getElem?_getD, List.getElem?_eq_getElem hi]; rfl
      rw [e1]
      cases hq : (decide (97 ≤ byteN (c :: l) 0) && decide (byteN (c :: l) 0 ≤ 122))
      · simp only [Bool.false_eq_true, if_false, Bool.false_and, Option.bind_some]
        rw [anyN_t.2 ⟨0, by simp, by simp only [badC, hq]; rfl⟩]; rfl
      · simp only [if_true, Bool.true_and]
        congr 2
        refine anyN_congr fun i hi => ?_
        by_cases h0 : i = 0
        · subst h0; simp only [badC, hq]; rfl
        · simp [h0]
    · have hle : ¬ (((c :: l).length : Nat) : Int) ≤ 40 := by omega
      have hle2 : ¬ (l.length : Int) + 1 ≤ 40 := by simp only [List.length_cons] at hl; omega
      have hle3 : ¬ l.length ≤ 39 := by simp only [List.length_cons] at hl; omega
      simp [nameB, hle2, hle3]

def withinB (p : A2) : Bool := decide (-1000 ≤ p.e0) && decide (p.e0 ≤ 1000) && decide (-1000 ≤ p.e1) && decide (p.e1 ≤ 1000)
theorem progPlace {n : Nat} (p : A2) : m_route_place n p = some (withinB p) := by
  have hi : ∀ x lo hi, m_route_in n x lo hi = some (decide (lo ≤ x) && decide (x ≤ hi)) := fun _ _ _ => rfl
  unfold m_route_place withinB
  simp only [hi, Option.bind_some]
  cases decide (-1000 ≤ p.e0) <;> cases decide (p.e0 ≤ 1000) <;> simp
theorem refWithin {n : Nat} (p : A2) : m_ref56_within n p = some (withinB p) := rfl

def badL (x : SLender) : Bool := !nameB x.fLibrary || !withinB x.fPlace || !(decide (0 ≤ x.fLoad) && decide (x.fLoad ≤ 100))
theorem progRow1 {n : Nat} {x : SLender} (hs : x.fLibrary.length ≤ ML) (hn : ML < n) : m_route_Row_1 n x = some (badL x) := by
  have hi : ∀ x lo hi, m_route_in n x lo hi = some (decide (lo ≤ x) && decide (x ≤ hi)) := fun _ _ _ => rfl
  unfold m_route_Row_1 badL
  simp only [progName hs hn, Option.bind_some, progPlace, hi]
  cases nameB x.fLibrary
  · rfl
  · show ((if _ then some (withinB x.fPlace) else _) : Option Bool).bind _ = _
    cases withinB x.fPlace <;> rfl

def costB (lib : List UInt8) (at_ : A2) (tried : List (List UInt8)) (x : SLender) : Int :=
  if x.fLibrary = lib ∨ x.fLibrary ∈ tried then -1
  else max (x.fPlace.e0 - at_.e0) (at_.e0 - x.fPlace.e0) + max (x.fPlace.e1 - at_.e1) (at_.e1 - x.fPlace.e1) + 10 * x.fLoad

theorem containsS {n : Nat} {l : List (List UInt8)} {s : List UInt8} (hl : l.length ≤ ML) (hn : ML < n) : m_slices_Contains_string_string n l s = some (decide (s ∈ l)) := by
  unfold m_slices_Contains_string_string m_slices_Index_string_string
  rcases iter_scan (ρ := Int ⊕ Unit) (f := fun i => m_slices_Index_string_string_L1 n l s i) l.length (fun i => decide (s = l.getD i [])) (fun i => .inl (i : Int)) (.inr ()) l.length 0 n 0 (by omega)
    (fun j hj => by
      unfold m_slices_Index_string_string_L1
      simp only [show ((j : Int) < (l.length : Int)) from by omega, decide_true, if_true, ix_get ([] : List UInt8) hj, Option.bind_some, wadd1 hj hl]
      split <;> rfl)
    (by simp [m_slices_Index_string_string_L1]) (by omega) rfl with ⟨i, _, h2, h3, _, h5⟩ | ⟨h1, h2⟩
  · rw [h5]
    have : s ∈ l := by have := of_decide_eq_true h3; rw [this]; simp [h2]
    simp [this]
  · rw [h2]
    have : s ∉ l := fun hm => by
      obtain ⟨i, hi, e⟩ := List.getElem_of_mem hm
      have := h1 i (by omega) hi
      simp [hi, e] at this
    simp [this]

/-- What a list of lenders keeps. -/
structure SaneL (l : List SLender) : Prop where
  n : l.length ≤ ML
  s : ∀ x ∈ l, x.fLibrary.length ≤ ML

def rowB (lib : List UInt8) (at_ : A2) (tried : List (List UInt8)) (l : List SLender) : List Int × Int :=
  if nameB lib = false then ([], 8) else if withinB at_ = false then ([], 2) else if decide (12 < l.length) || l.any badL then ([], 1) else (l.map (costB lib at_ tried), 0)

theorem good_of {x : SLender} (h : badL x = false) : (-1000 ≤ x.fPlace.e0 ∧ x.fPlace.e0 ≤ 1000 ∧ -1000 ≤ x.fPlace.e1 ∧ x.fPlace.e1 ≤ 1000) ∧ 0 ≤ x.fLoad ∧ x.fLoad ≤ 100 := by
  simp [badL, withinB] at h
  omega
theorem in_of {a : A2} (h : withinB a = true) : -1000 ≤ a.e0 ∧ a.e0 ≤ 1000 ∧ -1000 ≤ a.e1 ∧ a.e1 ≤ 1000 := by
  simp [withinB] at h
  omega

theorem progRow {n : Nat} {lib : List UInt8} {at_ : A2} {tried : List (List UInt8)} {l : List SLender} (h1 : lib.length ≤ ML) (h2 : tried.length ≤ ML) (hl : SaneL l) (hn : ML < n) :
    m_route_Row n lib at_ tried l = some (rowB lib at_ tried l) := by
  have hb : m_slices_ContainsFunc_route_Lender_route_Lender n l (fun y1 => m_route_Row_1 n y1) = some (l.any badL) :=
    contains_loop n l _ _ (fun x hx => progRow1 (hl.s x hx) hn) hl.n (by have := hl.n; omega)
  unfold m_route_Row rowB
  simp only [progName h1 hn, progPlace, Option.bind_some, hb]
  cases nameB lib
  · rfl
  · cases hat : withinB at_
    · rfl
    · simp only [Bool.not_true, Bool.false_eq_true, if_false, Bool.true_eq_false]
      by_cases h12 : 12 < l.length
      · have : (12 : Int) < l.length := by omega
        simp [this, h12]
      · have h12' : ¬ (12 : Int) < l.length := by omega
        simp only [h12, h12', decide_false, Bool.not_false, if_true, Bool.false_or, Option.bind_some]
        cases hbad : l.any badL
        · simp only [Bool.false_eq_true, if_false]
          have ha := in_of hat
          have hgood : ∀ x ∈ l, badL x = false := by simpa using hbad
          have hit := (iter_foldN (f := fun s : List Int × Int => m_route_Row_L1 n lib at_ tried l s.1 s.2) (ρ := List Int) (fun j s => s.length = j) (fun j s => (s, (j : Int))) (fun j s => s ++ [costB lib at_ tried (l.getD j default)]) (fun s => s) l.length l.length 0 n [] (([] : List Int), (0 : Int)) (by omega) ?_ (by intro j s _ h; simp [h]) ?_ (by have := hl.n; omega) rfl rfl).1
          · rw [hit]
            simp only [Option.bind_some]
            rw [foldN_append, List.nil_append, range_getD l default (costB lib at_ tried)]
          · rintro j s hj hlen
            unfold m_route_Row_L1
            simp only [show ((j : Int) < (l.length : Int)) from by omega, decide_true, if_true, ix_get (default : SLender) hj, Option.bind_some, wadd1 hj hl.n, containsS h2 hn, ite_bind]
            have hx := good_of (hgood (l.getD j default) (by simp [hj]))
            generalize l.getD j default = x at *
            simp only [m_route_distance, Option.bind_some]
            rw [w64 (x := x.fPlace.e0 - at_.e0) (by omega) (by omega), w64 (x := at_.e0 - x.fPlace.e0) (by omega) (by omega), w64 (x := x.fPlace.e1 - at_.e1) (by omega) (by omega), w64 (x := at_.e1 - x.fPlace.e1) (by omega) (by omega),
              w64 (x := 10 * x.fLoad) (by omega) (by omega), w64 (x := max (x.fPlace.e0 - at_.e0) (at_.e0 - x.fPlace.e0) + max (x.fPlace.e1 - at_.e1) (at_.e1 - x.fPlace.e1)) (by omega) (by omega), w64 (by omega) (by omega)]
            unfold costB
            have e : ∀ c : Int, app 8 s [c] = some (s ++ [c]) := fun c => app_one (by omega) (by omega)
            by_cases q1 : x.fLibrary = lib
            · simp [q1, e]
            · by_cases q2 : x.fLibrary ∈ tried
              · simp [q1, q2, e]
              · simp [q1, q2, e]
          · intro s _
            simp [m_route_Row_L1]
        · simp

theorem refRow {n : Nat} {lib : List UInt8} {at_ : A2} {tried : List (List UInt8)} {l : List SLender} (h1 : lib.length ≤ ML) (h2 : tried.length ≤ ML) (hl : SaneL l) (hn : ML < n) :
    m_ref56_Row n lib at_ tried l = some (rowB lib at_ tried l) := by
  have hb : iter n (fun s => m_ref56_Row_L1 n l s) (0 : Int) = some (if anyN l.length (fun i => badL (l.getD i default) || decide (12 < l.length)) = true then .inl ([], 1) else .inr ()) := by
    refine iter_any (ρ := (List Int × Int) ⊕ Unit) l.length n _ _ _ (fun j hj => ?_) ?_ (by have := hl.n; omega)
    · unfold m_ref56_Row_L1
      have hx := hl.s (l.getD j default) (by simp [hj])
      simp only [show ((j : Int) < (l.length : Int)) from by omega, decide_true, if_true, ix_get (default : SLender) hj, Option.bind_some, wadd1 hj hl.n, ite_bind, refName hx hn, refWithin]
      generalize l.getD j default = x
      unfold badL
      have h12 : decide ((12 : Int) < (l.length : Int)) = decide (12 < l.length) := by
        by_cases h : 12 < l.length
        · rw [decide_eq_true h, decide_eq_true (by omega)]
        · rw [decide_eq_false h, decide_eq_false (by omega)]
      rw [h12]
      generalize decide (12 < l.length) = b
      cases nameB x.fLibrary <;> cases hwi : withinB x.fPlace <;> cases b <;> by_cases q1 : x.fLoad < 0 <;> by_cases q2 : 100 < x.fLoad <;>
        simp [hwi, q1, q2, show (0 ≤ x.fLoad ↔ ¬ x.fLoad < 0) from by omega, show (x.fLoad ≤ 100 ↔ ¬ 100 < x.fLoad) from by omega]
    · simp [m_ref56_Row_L1]
  unfold m_ref56_Row rowB
  simp only [refName h1 hn, refWithin, Option.bind_some, hb]
  cases nameB lib
  · rfl
  · show (if (!withinB at_) = true then _ else _) = _
    cases hat : withinB at_
    · rfl
    · simp only [Bool.not_true, Bool.false_eq_true, if_false, Bool.true_eq_false]
      have hany : anyN l.length (fun i => badL (l.getD i default) || decide (12 < l.length)) = (decide (12 < l.length) || l.any badL) := by
        rw [← anyN_getD l default badL]
        cases hd : decide (12 < l.length)
        · simp
        · have := of_decide_eq_true hd
          rw [Bool.true_or]; exact anyN_t.2 ⟨0, by omega, by simp⟩
      rw [hany]
      cases hbad : (decide (12 < l.length) || l.any badL)
      · simp only [Bool.or_eq_false_iff, decide_eq_false_iff_not] at hbad
        obtain ⟨h12, hbad⟩ := hbad
        simp only [Bool.false_eq_true, if_false]
        have ha := in_of hat
        have hgood : ∀ x ∈ l, badL x = false := by simpa using hbad
        have hit := (iter_foldN (f := fun s : List Int × Int => m_ref56_Row_L2 n lib at_ tried l s.1 s.2) (ρ := List Int) (fun j s => s.length = j) (fun j s => (s, (j : Int))) (fun j s => s ++ [costB lib at_ tried (l.getD j default)]) (fun s => s) l.length l.length 0 n [] (([] : List Int), (0 : Int)) (by omega) ?_ (by intro j s _ h; simp [h]) ?_ (by have := hl.n; omega) rfl rfl).1
        · rw [hit]
          simp only [Option.bind_some]
          rw [foldN_append, List.nil_append, range_getD l default (costB lib at_ tried)]
        · rintro j s hj hlen
          have h3 : ∀ c : Int, iter n (fun s => m_ref56_Row_L3 n tried l (j : Int) s.1 s.2) (c, (0 : Int)) = some (if (l.getD j default).fLibrary ∈ tried then -1 else c) := fun c => by
            have hit := (iter_foldN (f := fun s : Int × Int => m_ref56_Row_L3 n tried l (j : Int) s.1 s.2) (ρ := Int) (fun _ _ => True) (fun j s => (s, (j : Int))) (fun k s => if decide (tried.getD k [] = (l.getD j default).fLibrary) = true then -1 else s) (fun s => s) tried.length tried.length 0 n c (c, (0 : Int)) (by omega) ?_ (fun _ _ _ _ => trivial) ?_ (by omega) rfl trivial).1
            · rw [hit, foldN_flag]
              congr 1
              have e : (List.range' 0 tried.length).any (fun k => decide (tried.getD k [] = (l.getD j default).fLibrary)) = decide ((l.getD j default).fLibrary ∈ tried) := by
                rw [← List.range_eq_range', show (List.range tried.length).any (fun k => decide (tried.getD k [] = (l.getD j default).fLibrary)) = anyN tried.length (fun k => decide (tried.getD k [] = (l.getD j default).fLibrary)) from rfl, anyN_getD tried [] (fun y => decide (y = (l.getD j default).fLibrary))]
                rw [Bool.eq_iff_iff]; simp
              rw [e]; simp
            · rintro k s hk _
              unfold m_ref56_Row_L3
              simp only [show ((k : Int) < (tried.length : Int)) from by omega, decide_true, if_true, ix_get ([] : List UInt8) hk, ix_get (default : SLender) hj, Option.bind_some, wadd1 hk h2]
              split <;> rfl
            · intro s _
              simp [m_ref56_Row_L3]
          unfold m_ref56_Row_L2
          simp only [show ((j : Int) < (l.length : Int)) from by omega, decide_true, if_true, ix_get (default : SLender) hj, Option.bind_some, wadd1 hj hl.n, h3, ite_bind, m_ref56_abs]
          have hx := good_of (hgood (l.getD j default) (by simp [hj]))
          generalize l.getD j default = x at *
          rw [w64 (x := x.fPlace.e0 - at_.e0) (by omega) (by omega), w64 (x := -(x.fPlace.e0 - at_.e0)) (by omega) (by omega), w64 (x := x.fPlace.e1 - at_.e1) (by omega) (by omega), w64 (x := -(x.fPlace.e1 - at_.e1)) (by omega) (by omega),
            w64 (x := 10 * x.fLoad) (by omega) (by omega), w64 (x := max (x.fPlace.e0 - at_.e0) (-(x.fPlace.e0 - at_.e0)) + max (x.fPlace.e1 - at_.e1) (-(x.fPlace.e1 - at_.e1))) (by omega) (by omega), w64 (by omega) (by omega)]
          unfold costB
          have e : ∀ c : Int, app 8 s [c] = some (s ++ [c]) := fun c => app_one (by omega) (by omega)
          rw [Int.neg_sub, Int.neg_sub]
          by_cases q1 : x.fLibrary = lib
          · simp [q1, e]
          · by_cases q2 : x.fLibrary ∈ tried
            · simp [q1, q2, e]
            · simp [q1, q2, e]
        · intro s _
          simp [m_ref56_Row_L2]
      · simp
end Go.Proofs.Ythjinjinnklkgaa.Ab
