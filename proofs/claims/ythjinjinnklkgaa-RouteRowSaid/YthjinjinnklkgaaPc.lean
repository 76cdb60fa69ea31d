/- Chapter 56: Cost of the program and of the reference. Conditions: none. -/
import Derived.Test.YthjinjinnklkgaaPb
set_option maxRecDepth 100000
namespace Go.Proofs.Ythjinjinnklkgaa.Ab
open Go

theorem foldN_snoc {σ : Type} {g : Nat → σ → σ} : ∀ (k j : Nat) (s : σ), foldN g j (k + 1) s = g (j + k) (foldN g j k s)
  | 0, _, _ => rfl
  | k + 1, j, s => by
    rw [foldN, foldN_snoc k (j + 1), foldN, show j + 1 + k = j + (k + 1) by omega]

section
variable (p : SProblem) (a : List Int)
def colB (j : Nat) : Bool := decide (0 ≤ a.getD j 0) && decide (a.getD j 0 ≤ (p.fRoom.length : Int) - 1) && !decide ((p.fCosts.getD j []).getD (a.getD j 0).toNat 0 = -1)
def gp (j : Nat) (s : Int × List Int) : (Int × List Int) ⊕ Unit :=
  if a.getD j 0 = -1 then .inl (IntKind.i64.wrap (s.1 + p.fPenalty), s.2)
  else if colB p a j = false ∨ s.2.getD (a.getD j 0).toNat 0 = p.fRoom.getD (a.getD j 0).toNat 0 then .inr ()
  else .inl (IntKind.i64.wrap (s.1 + (p.fCosts.getD j []).getD (a.getD j 0).toNat 0), s.2.set (a.getD j 0).toNat (s.2.getD (a.getD j 0).toNat 0 + 1))
def gr (j : Nat) (s : List Int) : List Int ⊕ Unit :=
  if a.getD j 0 = -1 then .inl s
  else if colB p a j = false ∨ s.getD (a.getD j 0).toNat 0 = 0 then .inr ()
  else .inl (s.set (a.getD j 0).toNat (s.getD (a.getD j 0).toNat 0 - 1))
def gc (j : Nat) (s : Int) : Int :=
  IntKind.i64.wrap (s + if a.getD j 0 = -1 then p.fPenalty else (p.fCosts.getD j []).getD (a.getD j 0).toNat 0)
end

theorem setI_get {l : List Int} {i : Int} {x : Int} (h0 : 0 ≤ i) (h : i.toNat < l.length) : setI l i x = some (l.set i.toNat x) := by simp [setI, h0, h]

variable {n : Nat} {p : SProblem} {a : List Int}

theorem progCost (hv : VP p) (hlen : a.length = p.fCosts.length) (hn : ML < n) :
    m_route_Problem_cost n p a = some (Sum.elim (fun s => (s.1, true)) (fun _ => (0, false)) (foldE (gp p a) 0 a.length (0, List.replicate p.fRoom.length 0))) := by
  unfold m_route_Problem_cost
  rw [if_neg (by simp [hlen])]
  have hr := hv.r; have hc := hv.c
  have hmk : mkL 8 (p.fRoom.length : Int) (0 : Int) = some (List.replicate p.fRoom.length 0) := by
    unfold mkL; rw [if_pos (by refine ⟨by omega, ?_, ?_⟩ <;> simp only [Int.toNat_natCast] <;> omega)]; simp
  rw [hmk]
  simp only [Option.bind_some]
  have hit : iter n (fun s => m_route_Problem_cost_L1 n p a s.1 s.2.1 s.2.2) ((0 : Int), (0 : Int), List.replicate p.fRoom.length 0) = some (Sum.elim (fun s => .inr (s.1, s.2)) (fun _ => .inl (0, false)) (foldE (gp p a) 0 a.length (0, List.replicate p.fRoom.length 0))) := by
   refine iter_foldE (ρ := (Int × Bool) ⊕ (Int × List Int)) (fun j (s : Int × List Int) => s.2.length = p.fRoom.length ∧ ∀ i, i < p.fRoom.length → 0 ≤ s.2.getD i 0 ∧ s.2.getD i 0 ≤ p.fRoom.getD i 0)
    (fun j s => (s.1, (j : Int), s.2)) (gp p a) (fun s => .inr (s.1, s.2)) (fun _ => .inl (0, false)) a.length a.length 0 n (0, List.replicate p.fRoom.length 0) ((0 : Int), (0 : Int), List.replicate p.fRoom.length 0) (by omega) ?_ ?_ ?_ (by simp only [ML] at hn; omega) rfl ?_
   · rintro j ⟨s, u⟩ hj ⟨hu, hu2⟩
     dsimp only at hu hu2
     unfold m_route_Problem_cost_L1 gp colB
     have hj' : j < p.fCosts.length := by omega
     simp only [show ((j : Int) < (a.length : Int)) from by omega, decide_true, if_true, ix_get (0 : Int) hj, Option.bind_some, wadd1 hj (show a.length ≤ ML by simp only [ML]; omega), ix_get ([] : List Int) hj']
     generalize hvv : a.getD j 0 = v
     by_cases e1 : v = -1
     · simp [e1]
     · simp only [e1, decide_false, Bool.false_eq_true, if_false]
       rw [w64 (x := (p.fRoom.length : Int) - 1) (by omega) (by omega)]
       have hin : m_route_in n v 0 ((p.fRoom.length : Int) - 1) = some (decide (0 ≤ v) && decide (v ≤ (p.fRoom.length : Int) - 1)) := rfl
       rw [hin]
       simp only [Option.bind_some]
       by_cases e2 : 0 ≤ v
       · by_cases e3 : v ≤ (p.fRoom.length : Int) - 1
         · have hvn : v.toNat < p.fRoom.length := by omega
           have hrow := hv.row j hj'
           have k1 : ix (p.fCosts.getD j []) v = some ((p.fCosts.getD j []).getD v.toNat 0) := ix_int 0 e2 (by omega)
           have k2 : ix u v = some (u.getD v.toNat 0) := ix_int 0 e2 (by omega)
           have k3 : ix p.fRoom v = some (p.fRoom.getD v.toNat 0) := ix_int 0 e2 (by omega)
           obtain ⟨q1, q2⟩ := hu2 _ hvn
           obtain ⟨q3, q4⟩ := hv.rm _ hvn
           generalize p.fCosts.getD j [] = R at *
           have k4 : setI u v (IntKind.i64.wrap (u.getD v.toNat 0 + 1)) = some (u.set v.toNat (u.getD v.toNat 0 + 1)) := by
             rw [setI_get e2 (by omega), w64 (by omega) (by omega)]
           simp only [e2, e3, decide_true, Bool.and_true, Bool.not_true, Bool.not_false, if_true, k1, k2, k3, Option.bind_some, Bool.false_or, Bool.true_and, ite_bind, k4]
           generalize R.getD v.toNat 0 = c
           generalize u.getD v.toNat 0 = x at *
           generalize p.fRoom.getD v.toNat 0 = y at *
           by_cases e4 : c = -1
           · simp [e4]
           · by_cases e5 : x = y
             · simp [e4, e5]
             · simp [e4, e5]
         · simp [e2, e3]
       · simp [e2]
   · rintro j ⟨s, u⟩ ⟨s', u'⟩ hj ⟨hu, hu2⟩ hg
     unfold gp colB at hg
     dsimp only at hu hu2 hg ⊢
     have hj' : j < p.fCosts.length := by omega
     generalize hvv : a.getD j 0 = v at *
     split at hg
     · injection hg with hg; injection hg with h1 h2; subst h2; exact ⟨hu, hu2⟩
     · split at hg
       · cases hg
       · rename_i e1 e2
         injection hg with hg; injection hg with h1 h2; subst h2
         simp only [not_or, Bool.not_eq_false, Bool.and_eq_true, decide_eq_true_eq] at e2
         have hvn : v.toNat < p.fRoom.length := by omega
         refine ⟨by simpa using hu, fun i hi => ?_⟩
         rw [getD_set _ _ _ _ _ (by omega)]
         have q1 := hu2 _ hi
         split
         · rename_i hh; subst hh; omega
         · exact q1
   · rintro ⟨s, u⟩ _
     simp [m_route_Problem_cost_L1]
   · refine ⟨by simp, fun i hi => ?_⟩
     have := hv.rm i hi
     have e : (List.replicate p.fRoom.length (0 : Int)).getD i 0 = 0 := by simp [List.getElem?_replicate, hi]
     rw [e]; omega
  rw [hit]
  cases foldE (gp p a) 0 a.length (0, List.replicate p.fRoom.length 0) <;> rfl

theorem refPermitted (hv : VP p) (hlen : a.length = p.fCosts.length) (hn : ML < n) :
    m_ref56_Permitted n p a = some (Sum.elim (fun _ => true) (fun _ => false) (foldE (gr p a) 0 a.length p.fRoom)) := by
  unfold m_ref56_Permitted
  rw [if_neg (by simp [hlen])]
  have hr := hv.r; have hc := hv.c
  have hap : app 8 ([] : List Int) p.fRoom = some p.fRoom := by
    unfold app; rw [if_pos (by refine ⟨?_, ?_⟩ <;> simp only [List.length_nil] <;> omega)]; rfl
  rw [hap]
  simp only [Option.bind_some]
  have hit : iter n (fun s => m_ref56_Permitted_L1 n p a s.1 s.2) ((0 : Int), p.fRoom) = some (Sum.elim (fun s => .inr s) (fun _ => .inl false) (foldE (gr p a) 0 a.length p.fRoom)) := by
   refine iter_foldE (ρ := Bool ⊕ List Int) (fun j (s : List Int) => s.length = p.fRoom.length ∧ ∀ i, i < p.fRoom.length → 0 ≤ s.getD i 0 ∧ s.getD i 0 ≤ 20)
    (fun j s => ((j : Int), s)) (gr p a) (fun s => .inr s) (fun _ => .inl false) a.length a.length 0 n p.fRoom ((0 : Int), p.fRoom) (by omega) ?_ ?_ ?_ (by simp only [ML] at hn; omega) rfl ⟨rfl, hv.rm⟩
   · rintro j u hj ⟨hu, hu2⟩
     unfold m_ref56_Permitted_L1 gr colB
     have hj' : j < p.fCosts.length := by omega
     simp only [show ((j : Int) < (a.length : Int)) from by omega, decide_true, if_true, ix_get (0 : Int) hj, Option.bind_some, wadd1 hj (show a.length ≤ ML by simp only [ML]; omega), ix_get ([] : List Int) hj', hu]
     generalize hvv : a.getD j 0 = v
     by_cases e1 : v = -1
     · simp [e1]
     · simp only [e1, decide_false, Bool.false_eq_true, if_false]
       by_cases e2 : 0 ≤ v
       · by_cases e3 : v ≤ (p.fRoom.length : Int) - 1
         · have hvn : v.toNat < p.fRoom.length := by omega
           have hrow := hv.row j hj'
           have k1 : ix (p.fCosts.getD j []) v = some ((p.fCosts.getD j []).getD v.toNat 0) := ix_int 0 e2 (by omega)
           have k2 : ix u v = some (u.getD v.toNat 0) := ix_int 0 e2 (by omega)
           obtain ⟨q1, q2⟩ := hu2 _ hvn
           generalize p.fCosts.getD j [] = R at *
           have k4 : setI u v (IntKind.i64.wrap (u.getD v.toNat 0 - 1)) = some (u.set v.toNat (u.getD v.toNat 0 - 1)) := by
             rw [setI_get e2 (by omega), w64 (by omega) (by omega)]
           simp only [e2, e3, show ¬ v < 0 by omega, show ¬ (p.fRoom.length : Int) ≤ v by omega, decide_true, decide_false, Bool.and_true, Bool.not_true, Bool.not_false, if_true, k1, k2, Option.bind_some, Bool.false_or, Bool.or_false, Bool.true_and, ite_bind, k4]
           generalize R.getD v.toNat 0 = c
           generalize u.getD v.toNat 0 = x at *
           by_cases e4 : c = -1
           · simp [e4]
           · by_cases e5 : x = 0
             · simp [e4, e5]
             · simp [e4, e5]
         · simp [e2, e3, show ¬ v < 0 by omega, show (p.fRoom.length : Int) ≤ v by omega, show ¬ v < (p.fRoom.length : Int) by omega]
       · simp [e2, show v < 0 by omega]
   · rintro j u u' hj ⟨hu, hu2⟩ hg
     unfold gr colB at hg
     generalize hvv : a.getD j 0 = v at *
     split at hg
     · injection hg with hg; subst hg; exact ⟨hu, hu2⟩
     · split at hg
       · cases hg
       · rename_i e1 e2
         injection hg with hg; subst hg
         simp only [not_or, Bool.not_eq_false, Bool.and_eq_true, decide_eq_true_eq] at e2
         have hvn : v.toNat < p.fRoom.length := by omega
         refine ⟨by simpa using hu, fun i hi => ?_⟩
         rw [getD_set _ _ _ _ _ (by omega)]
         have q1 := hu2 _ hi
         split
         · rename_i hh; subst hh; omega
         · exact q1
   · intro s _
     simp [m_ref56_Permitted_L1]
  rw [hit]
  cases foldE (gr p a) 0 a.length p.fRoom <;> rfl

theorem refCost (hv : VP p) (hlen : a.length = p.fCosts.length) (hn : ML < n) (hin : ∀ j, j < a.length → a.getD j 0 = -1 ∨ (0 ≤ a.getD j 0 ∧ a.getD j 0 < p.fRoom.length)) :
    m_ref56_cost n p a = some (foldN (gc p a) 0 a.length 0) := by
  unfold m_ref56_cost
  have hc := hv.c
  have hit := (iter_foldN (f := fun s : Int × Int => m_ref56_cost_L1 n p a s.1 s.2) (ρ := Int) (fun _ _ => True) (fun j s => (s, (j : Int))) (gc p a) (fun s => s) a.length a.length 0 n 0 ((0 : Int), (0 : Int)) (by omega) ?_ (fun _ _ _ _ => trivial) ?_ (by simp only [ML] at hn; omega) rfl trivial).1
  · rw [hit]; rfl
  · rintro j s hj _
    unfold m_ref56_cost_L1 gc
    have hj' : j < p.fCosts.length := by omega
    simp only [show ((j : Int) < (a.length : Int)) from by omega, decide_true, if_true, ix_get (0 : Int) hj, Option.bind_some, wadd1 hj (show a.length ≤ ML by simp only [ML]; omega), ix_get ([] : List Int) hj']
    have hh := hin j hj
    generalize hvv : a.getD j 0 = v at *
    by_cases e1 : v = -1
    · simp [e1]
    · have hrow := hv.row j hj'
      have k1 : ix (p.fCosts.getD j []) v = some ((p.fCosts.getD j []).getD v.toNat 0) := ix_int 0 (by omega) (by omega)
      simp only [e1, decide_false, Bool.false_eq_true, if_false, k1, Option.bind_some]
  · intro s _
    simp [m_ref56_cost_L1]

/-- Cost says what the reference says. -/
theorem costs {n : Nat} {p : SProblem} {a : List Int} (hs : Sane p) (hn : ML < n) : ∃ r, m_route_Cost n p a = some r ∧ m_ref56_Cost n p a = some r ∧ (validB p = false → r.2 ≠ 0) := by
  unfold m_route_Cost m_ref56_Cost
  simp only [routeValid hs hn, refValid hs hn, Option.bind_some]
  cases hvb : validB p
  · exact ⟨(0, 1), rfl, rfl, fun _ => by decide⟩
  · have hv := vp_of hvb
    by_cases hlen : a.length = p.fCosts.length
    · simp only [Bool.not_true, Bool.false_eq_true, if_false, progCost hv hlen hn, refPermitted hv hlen hn, Option.bind_some]
      have hrel := foldE_rel (g := gp p a) (h := gr p a) (τ := Unit) (τ' := Unit) (fun j (s : Int × List Int) (u : List Int) => s.1 = foldN (gc p a) 0 j 0 ∧ s.2.length = p.fRoom.length ∧ u.length = p.fRoom.length ∧
          (∀ i, i < p.fRoom.length → u.getD i 0 = p.fRoom.getD i 0 - s.2.getD i 0) ∧ (∀ i, i < j → a.getD i 0 = -1 ∨ (0 ≤ a.getD i 0 ∧ a.getD i 0 < p.fRoom.length))) (fun _ _ => True) a.length 0 (0, List.replicate p.fRoom.length 0) p.fRoom ?_ ?_
      · rcases hrel with ⟨s, u, h1, h2, h3, h4, h5, h6, h7⟩ | ⟨t, t', h1, h2, _⟩
        · rw [h1, h2]
          simp only [Nat.zero_add] at h3 h7
          refine ⟨(s.1, 0), rfl, ?_, by simp⟩
          simp only [Sum.elim_inl, Bool.not_true, Bool.false_eq_true, if_false, refCost hv hlen hn h7, Option.bind_some, h3]
        · rw [h1, h2]
          exact ⟨(0, 11), rfl, rfl, by simp⟩
      · rintro j ⟨s, w⟩ u _ hj ⟨h3, h4, h5, h6, h7⟩
        dsimp only at h3 h4 h6
        have hcs : ∀ (c : Prop), c → c := fun _ h => h
        unfold gp gr
        dsimp only
        by_cases e1 : a.getD j 0 = -1
        · rw [if_pos e1, if_pos e1]
          refine .inl ⟨_, _, rfl, rfl, ?_, h4, h5, h6, fun i hi => ?_⟩
          · rw [foldN_snoc, ← h3, gc, Nat.zero_add, if_pos e1]
          · by_cases hij : i = j
            · subst hij; exact .inl e1
            · exact h7 i (by omega)
        · rw [if_neg e1, if_neg e1]
          cases e2 : colB p a j
          · exact .inr ⟨(), (), rfl, rfl, trivial⟩
          · have e3 := e2
            unfold colB at e3
            simp only [Bool.and_eq_true, decide_eq_true_eq] at e3
            have hvn : (a.getD j 0).toNat < p.fRoom.length := by omega
            have h8 := h6 _ hvn
            by_cases e4 : w.getD (a.getD j 0).toNat 0 = p.fRoom.getD (a.getD j 0).toNat 0
            · rw [if_pos (.inr e4), if_pos (.inr (by omega))]
              exact .inr ⟨(), (), rfl, rfl, trivial⟩
            · rw [if_neg (by simp [-List.getD_eq_getElem?_getD, e4]), if_neg (by simp only [not_or]; exact ⟨by simp, by omega⟩)]
              refine .inl ⟨_, _, rfl, rfl, ?_, by simpa using h4, by simpa using h5, fun i hi => ?_, fun i hi => ?_⟩
              · rw [foldN_snoc, ← h3, gc, Nat.zero_add, if_neg e1]
              · dsimp only
                rw [getD_set _ _ _ _ _ (by omega), getD_set _ _ _ _ _ (by omega)]
                have h9 := h6 _ hi
                split
                · rename_i hh; subst hh; omega
                · exact h9
              · by_cases hij : i = j
                · subst hij; exact .inr (by omega)
                · exact h7 i (by omega)
      · refine ⟨rfl, by simp, rfl, fun i hi => ?_, fun i hi => by omega⟩
        have e : (List.replicate p.fRoom.length (0 : Int)).getD i 0 = 0 := by simp [List.getElem?_replicate, hi]
        dsimp only
        rw [e]; omega
    · have e1 : m_route_Problem_cost n p a = some (0, false) := by
        unfold m_route_Problem_cost; rw [if_pos (by simp; omega)]
      have e2 : m_ref56_Permitted n p a = some false := by
        unfold m_ref56_Permitted; rw [if_pos (by simp; omega)]
      simp only [e1, e2]
      exact ⟨(0, 11), rfl, rfl, by simp⟩
end Go.Proofs.Ythjinjinnklkgaa.Ab
