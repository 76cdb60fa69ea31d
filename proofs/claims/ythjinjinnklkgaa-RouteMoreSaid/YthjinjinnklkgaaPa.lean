/- Plain laws, joined. Conditions: none. -/
import Derived.Test.YthjinjinnklkgaaMi
import Derived.Test.YthjinjinnklkgaaPl
set_option maxRecDepth 100000
namespace Go.Proofs.Ythjinjinnklkgaa.Ab
section
/- Chapter 56: Valid of the program and of the reference. Conditions: none. -/
open Go

/-- Sizes of a problem that every Go value keeps. -/
structure Sane (p : SProblem) : Prop where
  c : p.fCosts.length ≤ ML
  r : p.fRoom.length ≤ ML
  cs : ∀ x ∈ p.fCosts, x.length ≤ ML

def inZ (x lo hi : Int) : Bool := decide (lo ≤ x) && decide (x ≤ hi)
def validB (p : SProblem) : Bool :=
  decide (p.fCosts.length ≤ 12) && decide (p.fRoom.length ≤ 12) && inZ p.fPenalty 0 10000 && p.fRoom.all (fun x => inZ x 0 20) &&
    p.fCosts.all (fun row => decide (row.length = p.fRoom.length) && row.all (fun c => inZ c (-1) 10000))


theorem routeValid {n : Nat} {p : SProblem} (hs : Sane p) (hn : ML < n) : m_route_Valid n p = some (validB p) := by
  have hi : ∀ x lo hi, m_route_in n x lo hi = some (inZ x lo hi) := fun _ _ _ => rfl
  have h2 : m_slices_ContainsFunc_int_intx n p.fRoom (fun y1 => m_route_Valid_2 n y1) = some (p.fRoom.any fun x => !inZ x 0 20) :=
    contains_loop n p.fRoom _ _ (fun x _ => by simp [m_route_Valid_2, hi]) hs.r (by have := hs.r; omega)
  have h1 : m_slices_ContainsFunc_int_int n p.fCosts (fun y1 => m_route_Valid_1 n y1 p) = some (p.fCosts.any fun row => !(decide (row.length = p.fRoom.length) && row.all (fun c => inZ c (-1) 10000))) := by
    refine contains_loop n p.fCosts _ _ (fun x hx => ?_) hs.c (by have := hs.c; omega)
    have h3 : m_slices_ContainsFunc_int_intx n x (fun y1 => m_route_Valid_1_1 n y1) = some (x.any fun c => !inZ c (-1) 10000) :=
      contains_loop n x _ _ (fun y _ => by simp [m_route_Valid_1_1, hi]) (hs.cs x hx) (by have := hs.cs x hx; omega)
    simp only [m_route_Valid_1, h3]
    by_cases hl : x.length = p.fRoom.length
    · simp [hl, List.not_all_eq_any_not]
    · simp [hl, show ¬ (x.length : Int) = p.fRoom.length by omega]
  unfold m_route_Valid
  rw [hi]
  simp only [h1, h2, ite_bind, Option.bind_some]
  unfold validB
  by_cases c1 : p.fCosts.length ≤ 12
  · by_cases c2 : p.fRoom.length ≤ 12
    · cases c3 : inZ p.fPenalty 0 10000
      · have e1 : ¬ (12 : Int) < p.fCosts.length := by omega
        have e2 : ¬ (12 : Int) < p.fRoom.length := by omega
        simp [e1, e2, c3]
      · have e1 : ¬ (12 : Int) < p.fCosts.length := by omega
        have e2 : ¬ (12 : Int) < p.fRoom.length := by omega
        have q1 : (p.fCosts.any fun row => !(decide (row.length = p.fRoom.length) && row.all fun c => inZ c (-1) 10000)) = !(p.fCosts.all fun row => decide (row.length = p.fRoom.length) && row.all fun c => inZ c (-1) 10000) := List.not_all_eq_any_not.symm
        have q2 : (p.fRoom.any fun x => !inZ x 0 20) = !(p.fRoom.all fun x => inZ x 0 20) := List.not_all_eq_any_not.symm
        rw [q1, q2]
        generalize (p.fCosts.all fun row => decide (row.length = p.fRoom.length) && row.all fun c => inZ c (-1) 10000) = b1
        generalize (p.fRoom.all fun x => inZ x 0 20) = b2
        cases b1 <;> cases b2 <;> simp [e1, e2, c1, c2, c3]
    · simp [c2, show (12 : Int) < p.fRoom.length by omega]
  · simp [c1, show (12 : Int) < p.fCosts.length by omega]
end
section
/- Chapter 56: Valid of the reference. Conditions: none. -/
open Go

theorem all_anyN {α : Type} (l : List α) (d : α) (p : α → Bool) : l.all p = !anyN l.length (fun i => !p (l.getD i d)) := by
  rw [anyN_getD l d (fun x => !p x), List.not_any_eq_all_not]; simp

theorem refValid {n : Nat} {p : SProblem} (hs : Sane p) (hn : ML < n) : m_ref56_Valid n p = some (validB p) := by
  have h1 : iter n (fun s => m_ref56_Valid_L1 n p s) (0 : Int) = some (if anyN p.fRoom.length (fun i => !inZ (p.fRoom.getD i 0) 0 20) = true then .inl false else .inr ()) := by
    refine iter_any p.fRoom.length n _ _ _ (fun j hj => ?_) ?_ (by have := hs.r; omega)
    · unfold m_ref56_Valid_L1
      simp only [show ((j : Int) < (p.fRoom.length : Int)) from by omega, decide_true, if_true, ix_get (0 : Int) hj, Option.bind_some, wadd1 hj hs.r]
      generalize p.fRoom.getD j 0 = v
      by_cases e1 : v < 0
      · simp [inZ, e1, show ¬ 0 ≤ v by omega]
      · by_cases e2 : 20 < v
        · simp [inZ, e1, e2, show ¬ v ≤ 20 by omega]
        · simp [inZ, e1, e2, show v ≤ 20 by omega, show 0 ≤ v by omega]
    · simp [m_ref56_Valid_L1]
  have h2 : iter n (fun s => m_ref56_Valid_L2 n p s) (0 : Int) = some (if anyN p.fCosts.length (fun i => !(decide ((p.fCosts.getD i []).length = p.fRoom.length) && (p.fCosts.getD i []).all (fun c => inZ c (-1) 10000))) = true then .inl false else .inr ()) := by
    refine iter_any p.fCosts.length n _ _ _ (fun j hj => ?_) ?_ (by have := hs.c; omega)
    · unfold m_ref56_Valid_L2
      have hrow : (p.fCosts.getD j []).length ≤ ML := hs.cs _ (by simp [hj])
      have h3 : iter n (fun s => m_ref56_Valid_L3 n p j s) (0 : Int) = some (if anyN (p.fCosts.getD j []).length (fun i => !inZ ((p.fCosts.getD j []).getD i 0) (-1) 10000) = true then .inl false else .inr ()) := by
        refine iter_any _ n _ _ _ (fun k hk => ?_) ?_ (by omega)
        · unfold m_ref56_Valid_L3
          simp only [ix_get ([] : List Int) hj, Option.bind_some, show ((k : Int) < ((p.fCosts.getD j []).length : Int)) from by omega, decide_true, if_true, ix_get (0 : Int) hk, wadd1 hk hrow, ite_bind]
          generalize (p.fCosts.getD j []).getD k 0 = v
          by_cases e1 : v < -1
          · simp [inZ, e1, show ¬ -1 ≤ v by omega]
          · by_cases e2 : 10000 < v
            · simp [inZ, e1, e2, ix_get (0 : Int) hk, show ¬ v ≤ 10000 by omega]
            · simp [inZ, e1, e2, show v ≤ 10000 by omega, show -1 ≤ v by omega]
        · simp only [m_ref56_Valid_L3, ix_get ([] : List Int) hj, Option.bind_some]
          simp
      simp only [show ((j : Int) < (p.fCosts.length : Int)) from by omega, decide_true, if_true, ix_get ([] : List Int) hj, Option.bind_some, wadd1 hj hs.c, h3, all_anyN _ (0 : Int)]
      by_cases e1 : (p.fCosts.getD j []).length = p.fRoom.length
      · simp only [e1, decide_true, Bool.not_true, Bool.false_eq_true, if_false, Bool.true_and, Bool.not_not]
        generalize anyN _ _ = b
        cases b <;> rfl
      · simp [-List.getD_eq_getElem?_getD, e1, show ¬ ((p.fCosts.getD j []).length : Int) = p.fRoom.length by omega]
    · simp [m_ref56_Valid_L2]
  unfold m_ref56_Valid
  rw [h1, h2]
  unfold validB
  rw [all_anyN p.fRoom (0 : Int), all_anyN p.fCosts ([] : List Int)]
  generalize anyN p.fRoom.length _ = b1
  generalize anyN p.fCosts.length _ = b2
  by_cases c1 : p.fCosts.length ≤ 12
  · by_cases c2 : p.fRoom.length ≤ 12
    · have e1 : ¬ (12 : Int) < p.fCosts.length := by omega
      have e2 : ¬ (12 : Int) < p.fRoom.length := by omega
      by_cases c3 : p.fPenalty < 0
      · simp [e1, e2, c3, inZ, show ¬ 0 ≤ p.fPenalty by omega]
      · by_cases c4 : 10000 < p.fPenalty
        · simp [e1, e2, c3, c4, inZ, show ¬ p.fPenalty ≤ 10000 by omega]
        · cases b1 <;> cases b2 <;> simp [e1, e2, c1, c2, c3, c4, inZ, show p.fPenalty ≤ 10000 by omega, show 0 ≤ p.fPenalty by omega]
    · simp [c2, show (12 : Int) < p.fRoom.length by omega]
  · simp [c1, show (12 : Int) < p.fCosts.length by omega]

/-- What a valid problem is. -/
structure VP (p : SProblem) : Prop where
  c : p.fCosts.length ≤ 12
  r : p.fRoom.length ≤ 12
  p1 : 0 ≤ p.fPenalty
  p2 : p.fPenalty ≤ 10000
  rm : ∀ i, i < p.fRoom.length → 0 ≤ p.fRoom.getD i 0 ∧ p.fRoom.getD i 0 ≤ 20
  row : ∀ i, i < p.fCosts.length → (p.fCosts.getD i []).length = p.fRoom.length
  co : ∀ i j, i < p.fCosts.length → j < p.fRoom.length → -1 ≤ (p.fCosts.getD i []).getD j 0 ∧ (p.fCosts.getD i []).getD j 0 ≤ 10000
theorem inZ_t {x lo hi : Int} : inZ x lo hi = true ↔ lo ≤ x ∧ x ≤ hi := by simp [inZ]
theorem vp_of {p : SProblem} (h : validB p = true) : VP p := by
  simp only [validB, Bool.and_eq_true, decide_eq_true_eq, inZ_t, List.all_eq_true] at h
  obtain ⟨⟨⟨⟨h1, h2⟩, h3, h4⟩, h5⟩, h6⟩ := h
  refine ⟨h1, h2, h3, h4, fun i hi => h5 _ (by simp [hi]), fun i hi => (h6 _ (by simp [hi])).1, fun i j hi hj => ?_⟩
  have hh := h6 (p.fCosts.getD i []) (by simp [hi])
  
  generalize p.fCosts.getD i [] = R at *
  exact hh.2 _ (by rw [← hh.1] at hj; simp [hj])
end
section
/- Chapter 56: Cost of the program and of the reference. Conditions: none. -/
open Go

theorem foldN_snoc {σ : Type} {g : Nat → σ → σ} : ∀ (k j : Nat) (s : σ), foldN g j (k + 1) s = g (j + k) (foldN g j k s)
  | 0, _, _ => rfl
  | k + 1, j, s => by
    rw [foldN, foldN_snoc k (j + 1), foldN, show j + 1 + k = j + (k + 1) by omega]

section
variable (p : SProblem) (a : List Int)
def colB (j : Nat) : Bool := decide (0 ≤ a.getD j 0) && decide (a.getD j 0 ≤ (p.fRoom.length : Int) - 1) && !decide ((p.fCosts.getD j []).getD (a.getD j 0).toNat 0 = -1)
def gp (j : Nat) (s : Int × List Int) : (Int × List Int) ⊕ Unit :=
  if a.getD j 0 = -1 then .inl (IntKind.i64.wrap (s.1 + p.fPenalty), s.2)
  else if colB p a j = false ∨ s.2.getD (a.getD j 0).toNat 0 = p.fRoom.getD (a.getD j 0).toNat 0 then .inr ()
  else .inl (IntKind.i64.wrap (s.1 + (p.fCosts.getD j []).getD (a.getD j 0).toNat 0), s.2.set (a.getD j 0).toNat (s.2.getD (a.getD j 0).toNat 0 + 1))
def gr (j : Nat) (s : List Int) : List Int ⊕ Unit :=
  if a.getD j 0 = -1 then .inl s
  else if colB p a j = false ∨ s.getD (a.getD j 0).toNat 0 = 0 then .inr ()
  else .inl (s.set (a.getD j 0).toNat (s.getD (a.getD j 0).toNat 0 - 1))
def gc (j : Nat) (s : Int) : Int :=
  IntKind.i64.wrap (s + if a.getD j 0 = -1 then p.fPenalty else (p.fCosts.getD j []).getD (a.getD j 0).toNat 0)
end

theorem setI_get {l : List Int} {i : Int} {x : Int} (h0 : 0 ≤ i) (h : i.toNat < l.length) : setI l i x = some (l.set i.toNat x) := by simp [setI, h0, h]

variable {n : Nat} {p : SProblem} {a : List Int}

theorem progCost (hv : VP p) (hlen : a.length = p.fCosts.length) (hn : ML < n) :
    m_route_Problem_cost n p a = some (Sum.elim (fun s => (s.1, true)) (fun _ => (0, false)) (foldE (gp p a) 0 a.length (0, List.replicate p.fRoom.length 0))) := by
  unfold m_route_Problem_cost
  rw [if_neg (by simp [hlen])]
  have hr := hv.r; have hc := hv.c
  have hmk : mkL 8 (p.fRoom.length : Int) (0 : Int) = some (List.replicate p.fRoom.length 0) := by
    unfold mkL; rw [if_pos (by refine ⟨by omega, ?_, ?_⟩ <;> simp only [Int.toNat_natCast] <;> omega)]; simp
  rw [hmk]
  simp only [Option.bind_some]
  have hit : iter n (fun s => m_route_Problem_cost_L1 n p a s.1 s.2.1 s.2.2) ((0 : Int), (0 : Int), List.replicate p.fRoom.length 0) = some (Sum.elim (fun s => .inr (s.1, s.2)) (fun _ => .inl (0, false)) (foldE (gp p a) 0 a.length (0, List.replicate p.fRoom.length 0))) := by
   refine iter_foldE (ρ := (Int × Bool) ⊕ (Int × List Int)) (fun j (s : Int × List Int) => s.2.length = p.fRoom.length ∧ ∀ i, i < p.fRoom.length → 0 ≤ s.2.getD i 0 ∧ s.2.getD i 0 ≤ p.fRoom.getD i 0)
    (fun j s => (s.1, (j : Int), s.2)) (gp p a) (fun s => .inr (s.1, s.2)) (fun _ => .inl (0, false)) a.length a.length 0 n (0, List.replicate p.fRoom.length 0) ((0 : Int), (0 : Int), List.replicate p.fRoom.length 0) (by omega) ?_ ?_ ?_ (by simp only [ML] at hn; omega) rfl ?_
   · rintro j ⟨s, u⟩ hj ⟨hu, hu2⟩
     dsimp only at hu hu2
     unfold m_route_Problem_cost_L1 gp colB
     have hj' : j < p.fCosts.length := by omega
     simp only [show ((j : Int) < (a.length : Int)) from by omega, decide_true, if_true, ix_get (0 : Int) hj, Option.bind_some, wadd1 hj (show a.length ≤ ML by simp only [ML]; omega), ix_get ([] : List Int) hj']
     generalize hvv : a.getD j 0 = v
     by_cases e1 : v = -1
     · simp [e1]
     · simp only [e1, decide_false, Bool.false_eq_true, if_false]
       rw [w64 (x := (p.fRoom.length : Int) - 1) (by omega) (by omega)]
       have hin : m_route_in n v 0 ((p.fRoom.length : Int) - 1) = some (decide (0 ≤ v) && decide (v ≤ (p.fRoom.length : Int) - 1)) := rfl
       rw [hin]
       simp only [Option.bind_some]
       by_cases e2 : 0 ≤ v
       · by_cases e3 : v ≤ (p.fRoom.length : Int) - 1
         · have hvn : v.toNat < p.fRoom.length := by omega
           have hrow := hv.row j hj'
           have k1 : ix (p.fCosts.getD j []) v = some ((p.fCosts.getD j []).getD v.toNat 0) := ix_int 0 e2 (by omega)
           have k2 : ix u v = some (u.getD v.toNat 0) := ix_int 0 e2 (by omega)
           have k3 : ix p.fRoom v = some (p.fRoom.getD v.toNat 0) := ix_int 0 e2 (by omega)
           obtain ⟨q1, q2⟩ := hu2 _ hvn
           obtain ⟨q3, q4⟩ := hv.rm _ hvn
           generalize p.fCosts.getD j [] = R at *
           have k4 : setI u v (IntKind.i64.wrap (u.getD v.toNat 0 + 1)) = some (u.set v.toNat (u.getD v.toNat 0 + 1)) := by
             rw [setI_get e2 (by omega), w64 (by omega) (by omega)]
           simp only [e2, e3, decide_true, Bool.and_true, Bool.not_true, Bool.not_false, if_true, k1, k2, k3, Option.bind_some, Bool.false_or, Bool.true_and, ite_bind, k4]
           generalize R.getD v.toNat 0 = c
           generalize u.getD v.toNat 0 = x at *
           generalize p.fRoom.getD v.toNat 0 = y at *
           by_cases e4 : c = -1
           · simp [e4]
           · by_cases e5 : x = y
             · simp [e4, e5]
             · simp [e4, e5]
         · simp [e2, e3]
       · simp [e2]
   · rintro j ⟨s, u⟩ ⟨s', u'⟩ hj ⟨hu, hu2⟩ hg
     unfold gp colB at hg
     dsimp only at hu hu2 hg ⊢
     have hj' : j < p.fCosts.length := by omega
     generalize hvv : a.getD j 0 = v at *
     split at hg
     · injection hg with hg; injection hg with h1 h2; subst h2; exact ⟨hu, hu2⟩
     · split at hg
       · cases hg
       · rename_i e1 e2
         injection hg with hg; injection hg with h1 h2; subst h2
         simp only [not_or, Bool.not_eq_false, Bool.and_eq_true, decide_eq_true_eq] at e2
         have hvn : v.toNat < p.fRoom.length := by omega
         refine ⟨by simpa using hu, fun i hi => ?_⟩
         rw [getD_set _ _ _ _ _ (by omega)]
         have q1 := hu2 _ hi
         split
         · rename_i hh; subst hh; omega
         · exact q1
   · rintro ⟨s, u⟩ _
     simp [m_route_Problem_cost_L1]
   · refine ⟨by simp, fun i hi => ?_⟩
     have := hv.rm i hi
     have e : (List.replicate p.fRoom.length (0 : Int)).getD i 0 = 0 := by simp [List.getElem?_replicate, hi]
     rw [e]; omega
  rw [hit]
  cases foldE (gp p a) 0 a.length (0, List.replicate p.fRoom.length 0) <;> rfl

theorem refPermitted (hv : VP p) (hlen : a.length = p.fCosts.length) (hn : ML < n) :
    m_ref56_Permitted n p a = some (Sum.elim (fun _ => true) (fun _ => false) (foldE (gr p a) 0 a.length p.fRoom)) := by
  unfold m_ref56_Permitted
  rw [if_neg (by simp [hlen])]
  have hr := hv.r; have hc := hv.c
  have hap : app 8 ([] : List Int) p.fRoom = some p.fRoom := by
    unfold app; rw [if_pos (by refine ⟨?_, ?_⟩ <;> simp only [List.length_nil] <;> omega)]; rfl
  rw [hap]
  simp only [Option.bind_some]
  have hit : iter n (fun s => m_ref56_Permitted_L1 n p a s.1 s.2) ((0 : Int), p.fRoom) = some (Sum.elim (fun s => .inr s) (fun _ => .inl false) (foldE (gr p a) 0 a.length p.fRoom)) := by
   refine iter_foldE (ρ := Bool ⊕ List Int) (fun j (s : List Int) => s.length = p.fRoom.length ∧ ∀ i, i < p.fRoom.length → 0 ≤ s.getD i 0 ∧ s.getD i 0 ≤ 20)
    (fun j s => ((j : Int), s)) (gr p a) (fun s => .inr s) (fun _ => .inl false) a.length a.length 0 n p.fRoom ((0 : Int), p.fRoom) (by omega) ?_ ?_ ?_ (by simp only [ML] at hn; omega) rfl ⟨rfl, hv.rm⟩
   · rintro j u hj ⟨hu, hu2⟩
     unfold m_ref56_Permitted_L1 gr colB
     have hj' : j < p.fCosts.length := by omega
     simp only [show ((j : Int) < (a.length : Int)) from by omega, decide_true, if_true, ix_get (0 : Int) hj, Option.bind_some, wadd1 hj (show a.length ≤ ML by simp only [ML]; omega), ix_get ([] : List Int) hj', hu]
     generalize hvv : a.getD j 0 = v
     by_cases e1 : v = -1
     · simp [e1]
     · simp only [e1, decide_false, Bool.false_eq_true, if_false]
       by_cases e2 : 0 ≤ v
       · by_cases e3 : v ≤ (p.fRoom.length : Int) - 1
         · have hvn : v.toNat < p.fRoom.length := by omega
           have hrow := hv.row j hj'
           have k1 : ix (p.fCosts.getD j []) v = some ((p.fCosts.getD j []).getD v.toNat 0) := ix_int 0 e2 (by omega)
           have k2 : ix u v = some (u.getD v.toNat 0) := ix_int 0 e2 (by omega)
           obtain ⟨q1, q2⟩ := hu2 _ hvn
           generalize p.fCosts.getD j [] = R at *
           have k4 : setI u v (IntKind.i64.wrap (u.getD v.toNat 0 - 1)) = some (u.set v.toNat (u.getD v.toNat 0 - 1)) := by
             rw [setI_get e2 (by omega), w64 (by omega) (by omega)]
           simp only [e2, e3, show ¬ v < 0 by omega, show ¬ (p.fRoom.length : Int) ≤ v by omega, decide_true, decide_false, Bool.and_true, Bool.not_true, Bool.not_false, if_true, k1, k2, Option.bind_some, Bool.false_or, Bool.or_false, Bool.true_and, ite_bind, k4]
           generalize R.getD v.toNat 0 = c
           generalize u.getD v.toNat 0 = x at *
           by_cases e4 : c = -1
           · simp [e4]
           · by_cases e5 : x = 0
             · simp [e4, e5]
             · simp [e4, e5]
         · simp [e2, e3, show ¬ v < 0 by omega, show (p.fRoom.length : Int) ≤ v by omega, show ¬ v < (p.fRoom.length : Int) by omega]
       · simp [e2, show v < 0 by omega]
   · rintro j u u' hj ⟨hu, hu2⟩ hg
     unfold gr colB at hg
     generalize hvv : a.getD j 0 = v at *
     split at hg
     · injection hg with hg; subst hg; exact ⟨hu, hu2⟩
     · split at hg
       · cases hg
       · rename_i e1 e2
         injection hg with hg; subst hg
         simp only [not_or, Bool.not_eq_false, Bool.and_eq_true, decide_eq_true_eq] at e2
         have hvn : v.toNat < p.fRoom.length := by omega
         refine ⟨by simpa using hu, fun i hi => ?_⟩
         rw [getD_set _ _ _ _ _ (by omega)]
         have q1 := hu2 _ hi
         split
         · rename_i hh; subst hh; omega
         · exact q1
   · intro s _
     simp [m_ref56_Permitted_L1]
  rw [hit]
  cases foldE (gr p a) 0 a.length p.fRoom <;> rfl

theorem refCost (hv : VP p) (hlen : a.length = p.fCosts.length) (hn : ML < n) (hin : ∀ j, j < a.length → a.getD j 0 = -1 ∨ (0 ≤ a.getD j 0 ∧ a.getD j 0 < p.fRoom.length)) :
    m_ref56_cost n p a = some (foldN (gc p a) 0 a.length 0) := by
  unfold m_ref56_cost
  have hc := hv.c
  have hit := (iter_foldN (f := fun s : Int × Int => m_ref56_cost_L1 n p a s.1 s.2) (ρ := Int) (fun _ _ => True) (fun j s => (s, (j : Int))) (gc p a) (fun s => s) a.length a.length 0 n 0 ((0 : Int), (0 : Int)) (by omega) ?_ (fun _ _ _ _ => trivial) ?_ (by simp only [ML] at hn; omega) rfl trivial).1
  · rw [hit]; rfl
  · rintro j s hj _
    unfold m_ref56_cost_L1 gc
    have hj' : j < p.fCosts.length := by omega
    simp only [show ((j : Int) < (a.length : Int)) from by omega, decide_true, if_true, ix_get (0 : Int) hj, Option.bind_some, wadd1 hj (show a.length ≤ ML by simp only [ML]; omega), ix_get ([] : List Int) hj']
    have hh := hin j hj
    generalize hvv : a.getD j 0 = v at *
    by_cases e1 : v = -1
    · simp [e1]
    · have hrow := hv.row j hj'
      have k1 : ix (p.fCosts.getD j []) v = some ((p.fCosts.getD j []).getD v.toNat 0) := ix_int 0 (by omega) (by omega)
      simp only [e1, decide_false, Bool.false_eq_true, if_false, k1, Option.bind_some]
  · intro s _
    simp [m_ref56_cost_L1]

/-- Cost says what the reference says. -/
theorem costs {n : Nat} {p : SProblem} {a : List Int} (hs : Sane p) (hn : ML < n) : ∃ r, m_route_Cost n p a = some r ∧ m_ref56_Cost n p a = some r ∧ (validB p = false → r.2 ≠ 0) := by
  unfold m_route_Cost m_ref56_Cost
  simp only [routeValid hs hn, refValid hs hn, Option.bind_some]
  cases hvb : validB p
  · exact ⟨(0, 1), rfl, rfl, fun _ => by decide⟩
  · have hv := vp_of hvb
    by_cases hlen : a.length = p.fCosts.length
    · simp only [Bool.not_true, Bool.false_eq_true, if_false, progCost hv hlen hn, refPermitted hv hlen hn, Option.bind_some]
      have hrel := foldE_rel (g := gp p a) (h := gr p a) (τ := Unit) (τ' := Unit) (fun j (s : Int × List Int) (u : List Int) => s.1 = foldN (gc p a) 0 j 0 ∧ s.2.length = p.fRoom.length ∧ u.length = p.fRoom.length ∧
          (∀ i, i < p.fRoom.length → u.getD i 0 = p.fRoom.getD i 0 - s.2.getD i 0) ∧ (∀ i, i < j → a.getD i 0 = -1 ∨ (0 ≤ a.getD i 0 ∧ a.getD i 0 < p.fRoom.length))) (fun _ _ => True) a.length 0 (0, List.replicate p.fRoom.length 0) p.fRoom ?_ ?_
      · rcases hrel with ⟨s, u, h1, h2, h3, h4, h5, h6, h7⟩ | ⟨t, t', h1, h2, _⟩
        · rw [h1, h2]
          simp only [Nat.zero_add] at h3 h7
          refine ⟨(s.1, 0), rfl, ?_, by simp⟩
          simp only [Sum.elim_inl, Bool.not_true, Bool.false_eq_true, if_false, refCost hv hlen hn h7, Option.bind_some, h3]
        · rw [h1, h2]
          exact ⟨(0, 11), rfl, rfl, by simp⟩
      · rintro j ⟨s, w⟩ u _ hj ⟨h3, h4, h5, h6, h7⟩
        dsimp only at h3 h4 h6
        have hcs : ∀ (c : Prop), c → c := fun _ h => h
        unfold gp gr
        dsimp only
        by_cases e1 : a.getD j 0 = -1
        · rw [if_pos e1, if_pos e1]
          refine .inl ⟨_, _, rfl, rfl, ?_, h4, h5, h6, fun i hi => ?_⟩
          · rw [foldN_snoc, ← h3, gc, Nat.zero_add, if_pos e1]
          · by_cases hij : i = j
            · subst hij; exact .inl e1
            · exact h7 i (by omega)
        · rw [if_neg e1, if_neg e1]
          cases e2 : colB p a j
          · exact .inr ⟨(), (), rfl, rfl, trivial⟩
          · have e3 := e2
            unfold colB at e3
            simp only [Bool.and_eq_true, decide_eq_true_eq] at e3
            have hvn : (a.getD j 0).toNat < p.fRoom.length := by omega
            have h8 := h6 _ hvn
            by_cases e4 : w.getD (a.getD j 0).toNat 0 = p.fRoom.getD (a.getD j 0).toNat 0
            · rw [if_pos (.inr e4), if_pos (.inr (by omega))]
              exact .inr ⟨(), (), rfl, rfl, trivial⟩
            · rw [if_neg (by simp [-List.getD_eq_getElem?_getD, e4]), if_neg (by simp only [not_or]; exact ⟨by simp, by omega⟩)]
              refine .inl ⟨_, _, rfl, rfl, ?_, by simpa using h4, by simpa using h5, fun i hi => ?_, fun i hi => ?_⟩
              · rw [foldN_snoc, ← h3, gc, Nat.zero_add, if_neg e1]
              · dsimp only
                rw [getD_set _ _ _ _ _ (by omega), getD_set _ _ _ _ _ (by omega)]
                have h9 := h6 _ hi
                split
                · rename_i hh; subst hh; omega
                · exact h9
              · by_cases hij : i = j
                · subst hij; exact .inr (by omega)
                · exact h7 i (by omega)
      · refine ⟨rfl, by simp, rfl, fun i hi => ?_, fun i hi => by omega⟩
        have e : (List.replicate p.fRoom.length (0 : Int)).getD i 0 = 0 := by simp [List.getElem?_replicate, hi]
        dsimp only
        rw [e]; omega
    · have e1 : m_route_Problem_cost n p a = some (0, false) := by
        unfold m_route_Problem_cost; rw [if_pos (by simp; omega)]
      have e2 : m_ref56_Permitted n p a = some false := by
        unfold m_ref56_Permitted; rw [if_pos (by simp; omega)]
      simp only [e1, e2]
      exact ⟨(0, 11), rfl, rfl, by simp⟩
end
section
/- Chapter 56: Bound and Check of the program and of the reference. Conditions: none. -/
open Go

section
variable (p : SProblem) (x : SPrices)
def hL (j : Nat) (s : Int) : Int := IntKind.i64.wrap (s - IntKind.i64.wrap (p.fRoom.getD j 0 * x.fLenders.getD j 0))
def hA (j : Nat) (s : Int) : Int := IntKind.i64.wrap (s + x.fAsks.getD j 0)
def dear (i : Nat) : Bool := anyN p.fRoom.length fun j => !decide ((p.fCosts.getD i []).getD j 0 = -1) && decide (IntKind.i64.wrap ((p.fCosts.getD i []).getD j 0 + x.fLenders.getD j 0) < x.fAsks.getD i 0)
end

variable {n : Nat} {p : SProblem} {x : SPrices}

theorem progL1 (hv : VP p) (hlen : x.fLenders.length = p.fRoom.length) (hn : ML < n) :
    iter n (fun s => m_route_Bound_L1 n p x s.1 s.2) ((0 : Int), (0 : Int)) = some (if anyN p.fRoom.length (fun j => !!decide (x.fLenders.getD j 0 < 0)) = true then .inl (0, 17) else .inr (foldN (hL p x) 0 p.fRoom.length 0)) := by
  have hr := hv.r
  refine iter_ok (ρ := (Int × Int) ⊕ Int) (fun j s => (s, (j : Int))) (fun j => !decide (x.fLenders.getD j 0 < 0)) (hL p x) (fun s => .inr s) (.inl (0, 17)) p.fRoom.length n 0 _ (fun j s hj => ?_) (fun s => ?_) (by simp only [ML] at hn; omega) rfl
  · unfold m_route_Bound_L1 hL
    simp only [show ((j : Int) < (x.fLenders.length : Int)) from by omega, decide_true, if_true, ix_get (0 : Int) (show j < x.fLenders.length by omega), ix_get (0 : Int) hj, Option.bind_some, wadd1 hj (show p.fRoom.length ≤ ML by simp only [ML]; omega)]
    generalize x.fLenders.getD j 0 = v
    by_cases e : v < 0
    · simp [e]
    · simp [e]
  · simp [m_route_Bound_L1, hlen]
theorem refL1 (hv : VP p) (hlen : x.fLenders.length = p.fRoom.length) (hn : ML < n) :
    iter n (fun s => m_ref56_Bound_L1 n p x s.1 s.2) ((0 : Int), (0 : Int)) = some (if anyN p.fRoom.length (fun j => !(inZ (x.fLenders.getD j 0) 0 1000000)) = true then .inl (0, 17) else .inr (foldN (hL p x) 0 p.fRoom.length 0)) := by
  have hr := hv.r
  refine iter_ok (ρ := (Int × Int) ⊕ Int) (fun j s => (s, (j : Int))) (fun j => inZ (x.fLenders.getD j 0) 0 1000000) (hL p x) (fun s => .inr s) (.inl (0, 17)) p.fRoom.length n 0 _ (fun j s hj => ?_) (fun s => ?_) (by simp only [ML] at hn; omega) rfl
  · unfold m_ref56_Bound_L1 hL inZ
    simp only [show ((j : Int) < (x.fLenders.length : Int)) from by omega, decide_true, if_true, ix_get (0 : Int) (show j < x.fLenders.length by omega), ix_get (0 : Int) hj, Option.bind_some, wadd1 hj (show p.fRoom.length ≤ ML by simp only [ML]; omega)]
    generalize x.fLenders.getD j 0 = v
    by_cases e : v < 0
    · simp [e, show ¬ 0 ≤ v by omega]
    · by_cases e2 : 1000000 < v
      · simp [e, e2, show ¬ v ≤ 1000000 by omega]
      · simp [e, e2, show v ≤ 1000000 by omega, show 0 ≤ v by omega]
  · simp [m_ref56_Bound_L1, hlen]
theorem progL3 (hv : VP p) (hlen : x.fLenders.length = p.fRoom.length) (hn : ML < n) {i : Nat} (hi : i < p.fCosts.length) :
    iter n (fun s => m_route_Bound_L3 n x (x.fAsks.getD i 0) (p.fCosts.getD i []) s) (0 : Int) = some (if dear p x i = true then .inl (0, 17) else .inr ()) := by
  have hr := hv.r
  have hrow := hv.row i hi
  refine iter_any (ρ := (Int × Int) ⊕ Unit) p.fRoom.length n _ _ _ (fun j hj => ?_) ?_ (by simp only [ML] at hn; omega)
  · unfold m_route_Bound_L3
    simp only [show ((j : Int) < ((p.fCosts.getD i []).length : Int)) from by omega, decide_true, if_true, ix_get (0 : Int) (show j < (p.fCosts.getD i []).length by omega), ix_get (0 : Int) (show j < x.fLenders.length by omega), Option.bind_some, wadd1 hj (show p.fRoom.length ≤ ML by simp only [ML]; omega), ite_bind]
    generalize (p.fCosts.getD i []).getD j 0 = v
    generalize x.fLenders.getD j 0 = y
    generalize x.fAsks.getD i 0 = z
    by_cases e : v = -1
    · simp [e]
    · by_cases e2 : IntKind.i64.wrap (v + y) < z
      · simp [e, e2]
      · simp [e, e2]
  · simp only [m_route_Bound_L3, hrow]; simp
theorem refL3 (hv : VP p) (hlen : x.fLenders.length = p.fRoom.length) (hlen2 : x.fAsks.length = p.fCosts.length) (hn : ML < n) {i : Nat} (hi : i < p.fCosts.length) :
    iter n (fun s => m_ref56_Bound_L3 n p x (i : Int) s) (0 : Int) = some (if dear p x i = true then .inl (0, 17) else .inr ()) := by
  have hr := hv.r
  have hrow := hv.row i hi
  refine iter_any (ρ := (Int × Int) ⊕ Unit) p.fRoom.length n _ _ _ (fun j hj => ?_) ?_ (by simp only [ML] at hn; omega)
  · unfold m_ref56_Bound_L3
    simp only [show ((j : Int) < (p.fRoom.length : Int)) from by omega, decide_true, if_true, ix_get ([] : List Int) hi, ix_get (0 : Int) (show j < (p.fCosts.getD i []).length by omega), ix_get (0 : Int) (show j < x.fLenders.length by omega), ix_get (0 : Int) (show i < x.fAsks.length by omega), Option.bind_some, wadd1 hj (show p.fRoom.length ≤ ML by simp only [ML]; omega), ite_bind]
    generalize (p.fCosts.getD i []).getD j 0 = v
    generalize x.fLenders.getD j 0 = y
    generalize x.fAsks.getD i 0 = z
    by_cases e : v = -1
    · simp [e]
    · by_cases e2 : IntKind.i64.wrap (v + y) < z
      · simp [e, e2]
      · simp [e, e2]
  · simp [m_ref56_Bound_L3]
theorem progL2 (hv : VP p) (hlen : x.fLenders.length = p.fRoom.length) (hlen2 : x.fAsks.length = p.fCosts.length) (hn : ML < n) (s0 : Int) :
    iter n (fun s => m_route_Bound_L2 n p x s.1 s.2) (s0, (0 : Int)) = some (if anyN p.fCosts.length (fun i => !(!decide (p.fPenalty < x.fAsks.getD i 0) && !dear p x i)) = true then .inl (0, 17) else .inr (foldN (hA x) 0 p.fCosts.length s0)) := by
  have hc := hv.c
  refine iter_ok (ρ := (Int × Int) ⊕ Int) (fun j s => (s, (j : Int))) (fun i => !decide (p.fPenalty < x.fAsks.getD i 0) && !dear p x i) (hA x) (fun s => .inr s) (.inl (0, 17)) p.fCosts.length n s0 _ (fun j s hj => ?_) (fun s => ?_) (by simp only [ML] at hn; omega) rfl
  · unfold m_route_Bound_L2 hA
    simp only [show ((j : Int) < (x.fAsks.length : Int)) from by omega, decide_true, if_true, ix_get (0 : Int) (show j < x.fAsks.length by omega), ix_get ([] : List Int) hj, Option.bind_some, wadd1 hj (show p.fCosts.length ≤ ML by simp only [ML]; omega), progL3 hv hlen hn hj]
    generalize x.fAsks.getD j 0 = z
    by_cases e : p.fPenalty < z
    · simp [e]
    · cases dear p x j <;> simp [e]
  · simp [m_route_Bound_L2, hlen2]
theorem refL2 (hv : VP p) (hlen : x.fLenders.length = p.fRoom.length) (hlen2 : x.fAsks.length = p.fCosts.length) (hn : ML < n) (s0 : Int) :
    iter n (fun s => m_ref56_Bound_L2 n p x s.1 s.2) (s0, (0 : Int)) = some (if anyN p.fCosts.length (fun i => !(inZ (x.fAsks.getD i 0) (-1000000) p.fPenalty && !dear p x i)) = true then .inl (0, 17) else .inr (foldN (hA x) 0 p.fCosts.length s0)) := by
  have hc := hv.c
  refine iter_ok (ρ := (Int × Int) ⊕ Int) (fun j s => (s, (j : Int))) (fun i => inZ (x.fAsks.getD i 0) (-1000000) p.fPenalty && !dear p x i) (hA x) (fun s => .inr s) (.inl (0, 17)) p.fCosts.length n s0 _ (fun j s hj => ?_) (fun s => ?_) (by simp only [ML] at hn; omega) rfl
  · unfold m_ref56_Bound_L2 hA inZ
    simp only [show ((j : Int) < (x.fAsks.length : Int)) from by omega, decide_true, if_true, ix_get (0 : Int) (show j < x.fAsks.length by omega), ix_get ([] : List Int) hj, Option.bind_some, wadd1 hj (show p.fCosts.length ≤ ML by simp only [ML]; omega), refL3 hv hlen hlen2 hn hj, ite_bind]
    generalize x.fAsks.getD j 0 = z
    by_cases e1 : z < -1000000
    · simp [e1, show ¬ -1000000 ≤ z by omega]
    · by_cases e : p.fPenalty < z
      · simp [e, e1, show ¬ z ≤ p.fPenalty by omega]
      · cases dear p x j <;> simp [e, e1, show z ≤ p.fPenalty by omega, show -1000000 ≤ z by omega]
  · simp [m_ref56_Bound_L2, hlen2]

/-- Bound says what the reference says. -/
theorem bounds (hs : Sane p) (hx1 : x.fAsks.length ≤ ML) (hx2 : x.fLenders.length ≤ ML) (hn : ML < n) : ∃ r, m_route_Bound n p x = some r ∧ m_ref56_Bound n p x = some r := by
  unfold m_route_Bound m_ref56_Bound
  simp only [routeValid hs hn, refValid hs hn, Option.bind_some]
  cases hvb : validB p
  · exact ⟨_, rfl, rfl⟩
  · have hv := vp_of hvb
    have k1 : m_slices_ContainsFunc_int_intx n x.fAsks (fun y1 => m_route_Bound_1 n y1) = some (x.fAsks.any fun v => !inZ v (-1000000) 1000000) :=
      contains_loop n _ _ _ (fun y _ => rfl) hx1 (by omega)
    have k2 : m_slices_ContainsFunc_int_intx n x.fLenders (fun y1 => m_route_Bound_1 n y1) = some (x.fLenders.any fun v => !inZ v (-1000000) 1000000) :=
      contains_loop n _ _ _ (fun y _ => rfl) hx2 (by omega)
    simp only [k1, k2, Bool.not_true, Bool.false_eq_true, if_false]
    by_cases hl2 : x.fAsks.length = p.fCosts.length
    · by_cases hl : x.fLenders.length = p.fRoom.length
      · simp only [hl, hl2, decide_true, Bool.not_true, Bool.or_false, Bool.not_false, if_true, Bool.false_or, Option.bind_some, progL1 hv hl hn, refL1 hv hl hn]
        rw [← anyN_getD x.fAsks (0 : Int) (fun v => !inZ v (-1000000) 1000000), ← anyN_getD x.fLenders (0 : Int) (fun v => !inZ v (-1000000) 1000000), hl, hl2]
        have hp := hv.p2
        cases e1 : anyN p.fRoom.length (fun j => !(inZ (x.fLenders.getD j 0) 0 1000000))
        · have f1 := anyN_f.1 e1
          have e2 : anyN p.fRoom.length (fun i => !inZ (x.fLenders.getD i 0) (-1000000) 1000000) = false := anyN_f.2 fun i hi => by
            have := f1 i hi; simp only [inZ] at this ⊢; simp [-List.getD_eq_getElem?_getD] at this ⊢; omega
          have e3 : anyN p.fRoom.length (fun j => !!decide (x.fLenders.getD j 0 < 0)) = false := anyN_f.2 fun i hi => by
            have := f1 i hi; simp only [inZ] at this ⊢; simp [-List.getD_eq_getElem?_getD] at this ⊢; omega
          rw [e2, e3]
          simp only [Bool.false_eq_true, if_false, refL2 hv hl hl2 hn, progL2 hv hl hl2 hn, Option.bind_some]
          cases e4 : anyN p.fCosts.length (fun i => !(inZ (x.fAsks.getD i 0) (-1000000) p.fPenalty && !dear p x i))
          · have f4 := anyN_f.1 e4
            have e5 : anyN p.fCosts.length (fun i => !inZ (x.fAsks.getD i 0) (-1000000) 1000000) = false := anyN_f.2 fun i hi => by
              have := f4 i hi; simp only [inZ] at this ⊢; simp [-List.getD_eq_getElem?_getD] at this ⊢; omega
            have e6 : anyN p.fCosts.length (fun i => !(!decide (p.fPenalty < x.fAsks.getD i 0) && !dear p x i)) = false := anyN_f.2 fun i hi => by
              have := f4 i hi; simp only [inZ] at this ⊢; simp [-List.getD_eq_getElem?_getD] at this ⊢; exact ⟨by omega, this.2⟩
            rw [e5, e6]
            exact ⟨_, rfl, rfl⟩
          · obtain ⟨i, hi, h4⟩ := anyN_t.1 e4
            cases e5 : anyN p.fCosts.length (fun i => !inZ (x.fAsks.getD i 0) (-1000000) 1000000)
            · have f5 := anyN_f.1 e5 i hi
              have e6 : anyN p.fCosts.length (fun i => !(!decide (p.fPenalty < x.fAsks.getD i 0) && !dear p x i)) = true := anyN_t.2 ⟨i, hi, by
                simp only [inZ] at f5 h4; simp [-List.getD_eq_getElem?_getD] at f5 h4 ⊢
                by_cases q : p.fPenalty < x.fAsks.getD i 0
                · exact .inl q
                · rcases h4 with (h4 | h4) | h4
                  · omega
                  · exact absurd h4 q
                  · exact .inr h4⟩
              rw [e6]
              exact ⟨_, rfl, rfl⟩
            · exact ⟨_, rfl, rfl⟩
        · obtain ⟨i, hi, h1⟩ := anyN_t.1 e1
          have hfin : ∀ b : Bool, ∃ r : Int × Int, (if b = true then some ((0 : Int), (17 : Int)) else some (0, 17)) = some r ∧ some ((0 : Int), (17 : Int)) = some r := fun b => ⟨(0, 17), by cases b <;> rfl, rfl⟩
          cases e2 : anyN p.fRoom.length (fun i => !inZ (x.fLenders.getD i 0) (-1000000) 1000000)
          · have f2 := anyN_f.1 e2 i hi
            have e3 : anyN p.fRoom.length (fun j => !!decide (x.fLenders.getD j 0 < 0)) = true := anyN_t.2 ⟨i, hi, by
              simp only [inZ] at f2 h1; simp [-List.getD_eq_getElem?_getD] at f2 h1 ⊢; omega⟩
            rw [e3]
            cases anyN p.fCosts.length (fun i => !inZ (x.fAsks.getD i 0) (-1000000) 1000000) <;> exact ⟨_, rfl, rfl⟩
          · cases anyN p.fCosts.length (fun i => !inZ (x.fAsks.getD i 0) (-1000000) 1000000) <;> exact ⟨_, rfl, rfl⟩
      · have e : ¬ ((x.fLenders.length : Int) = p.fRoom.length) := by omega
        simp only [e, hl2, decide_true, decide_false, Bool.not_true, Bool.not_false, Bool.false_or, Bool.or_true, Bool.true_or, if_true, Bool.false_eq_true, if_false, Option.bind_some]
        exact ⟨_, rfl, rfl⟩
    · have e : ¬ ((x.fAsks.length : Int) = p.fCosts.length) := by omega
      simp only [e, decide_false, Bool.not_true, Bool.not_false, Bool.true_or, if_true, Bool.false_eq_true, if_false, Option.bind_some]
      exact ⟨_, rfl, rfl⟩

/-- Check says what the reference says. -/
theorem checks {a : List Int} (hs : Sane p) (hx1 : x.fAsks.length ≤ ML) (hx2 : x.fLenders.length ≤ ML) (hn : ML < n) : ∃ r, m_route_Check n p a x = some r ∧ m_ref56_Check n p a x = some r := by
  obtain ⟨c, c1, c2, _⟩ := costs (a := a) hs hn
  obtain ⟨b, b1, b2⟩ := bounds (x := x) hs hx1 hx2 hn
  unfold m_route_Check m_ref56_Check
  simp only [c1, c2, b1, b2, Option.bind_some]
  split
  · exact ⟨_, rfl, rfl⟩
  · split <;> exact ⟨_, rfl, rfl⟩
end
section
/- Chapter 56: the law RouteForms in plain Lean. Conditions: none. -/
open Go

end
end Go.Proofs.Ythjinjinnklkgaa.Ab
