/- The law of classes. Conditions: none. -/
import Derived.Test.YtkfffaoopcnaoaaTh
namespace Go.Proofs.Ytkfffaoopcnaoaa.Ab
open Go
theorem grp_congr {l : List SConstraint} {a b : Int} (h : root l a = root l b) : grp l a = grp l b :=
  ascI_ext (grp_asc l a) (grp_asc l b) fun y => by rw [grp_mem, grp_mem, h]
theorem apL_swap {l : List SConstraint} {a b x y : Int} (h1 : root l x = root l a) (h2 : root l y = root l b) : apL l y x = apL l a b := by
  unfold apL apC
  rw [h1, h2]
  congr 1
  funext c
  rw [Bool.or_comm]
theorem apL_mem {l : List SConstraint} {x : SConstraint} (hx : x ∈ l) (hk : x.fKind = 2) : apL l x.fB x.fA = true := by
  unfold apL
  rw [List.any_eq_true]
  exact ⟨x, hx, by simp [apC, hk]⟩
theorem Group_ok {n : Nat} {l : List SConstraint} (hv : validB l = true) (hn : 1000000 < n) (a : Int) : m_constraint_Group n l a = some (grp l a, 0) := group_eq hv hn
theorem Apart_ok {n : Nat} {l : List SConstraint} (hv : validB l = true) (hn : 1000000 < n) (a b : Int) : m_constraint_Apart n l a b = some (apL l a b, 0) := by rw [Apart_eq hn, hv]; rfl
theorem classes_all {n : Nat} {l : List SConstraint} {a b : Int} (hn : 1000000 < n) (haw : m_law32_awake n = some true) : m_law32_ConstraintClasses n l a b = some true := by
  unfold m_law32_ConstraintClasses
  rw [haw, Option.bind_some]
  by_cases hl : (14 : Int) < (l.length : Int)
  · rw [decide_eq_true hl]; rfl
  rw [decide_eq_false hl, if_pos (by decide), refvalid_eq (by omega) hn, Option.bind_some]
  cases hv : validB l with
  | false => rfl
  | true =>
    have ga := grp_len l a
    have gb := grp_len l b
    rw [if_neg (by decide), Group_ok hv hn, Option.bind_some, Group_ok hv hn, Option.bind_some, has_eq (by dsimp only; omega) hn, has_eq (by dsimp only; omega) hn, has_eq (by dsimp only; omega) hn, has_eq (by dsimp only; omega) hn]
    have hd : ∀ y c, decide (y ∈ grp l c) = decide (root l y = root l c) := fun y c => decide_eq_decide.2 grp_mem
    simp only [hd, decide_true, Bool.not_true, Bool.or_self, Bool.not_false, if_true, Option.bind_some, Bool.or_false]
    rw [if_neg (by
      have : decide (root l b = root l a) = decide (root l a = root l b) := decide_eq_decide.2 ⟨Eq.symm, Eq.symm⟩
      simp [this])]
    have q1 : iter n (fun s => m_law32_ConstraintClasses_L1 n l s) 0 = some (.inr ()) := by
      refine iter_to (f := fun s => m_law32_ConstraintClasses_L1 n l s) (fun j => (j : Int)) l.length n _ (fun j hj => ?_) (by simp [m_law32_ConstraintClasses_L1]) (by omega) rfl
      simp only [m_law32_ConstraintClasses_L1]
      have hm : l[j] ∈ l := List.getElem_mem hj
      rw [if_pos (decide_eq_true (by omega)), ixL hj, Option.bind_some, wadd1 hj (by simp only [ML]; omega)]
      generalize l[j] = x at *
      have gx := grp_len l x.fA
      rw [Group_ok hv hn, Option.bind_some, Apart_ok hv hn, Option.bind_some, has_eq (by dsimp only; omega) hn, hd]
      by_cases hk : x.fKind = 1
      · simp [hk, root_edge x hm hk]
      · by_cases hk2 : x.fKind = 2
        · simp [hk2, apL_mem hm hk2]
        · simp [hk, hk2]
    have q2 : iter n (fun s => m_law32_ConstraintClasses_L2 n l (grp l a, 0) (grp l b, 0) (apL l a b, 0) s) 0 = some (.inr ()) := by
      refine iter_to (f := fun s => m_law32_ConstraintClasses_L2 n l (grp l a, 0) (grp l b, 0) (apL l a b, 0) s) (fun j => (j : Int)) (grp l a).length n _ (fun j hj => ?_) (by simp [m_law32_ConstraintClasses_L2]) (by omega) rfl
      simp only [m_law32_ConstraintClasses_L2]
      have hm := grp_mem.1 (List.getElem_mem hj)
      rw [if_pos (decide_eq_true (by omega)), ixL hj, Option.bind_some, wadd1 hj (by simp only [ML]; omega)]
      generalize (grp l a)[j] = x at *
      rw [Group_ok hv hn, Option.bind_some, grp_congr hm, sameInts_eq (by dsimp only; omega) hn, Option.bind_some]
      have q3 : iter n (fun s => m_law32_ConstraintClasses_L3 n l (grp l b, 0) (apL l a b, 0) x s) 0 = some (.inr ()) := by
        refine iter_to (f := fun s => m_law32_ConstraintClasses_L3 n l (grp l b, 0) (apL l a b, 0) x s) (fun j => (j : Int)) (grp l b).length n _ (fun i hi => ?_) (by simp [m_law32_ConstraintClasses_L3]) (by omega) rfl
        simp only [m_law32_ConstraintClasses_L3]
        have hm2 := grp_mem.1 (List.getElem_mem hi)
        rw [if_pos (decide_eq_true (by omega)), ixL hi, Option.bind_some, wadd1 hi (by simp only [ML]; omega)]
        generalize (grp l b)[i] = y at *
        rw [Apart_ok hv hn, Option.bind_some, apL_swap hm hm2]
        simp
      rw [q3]
      simp
    rw [q1, Option.bind_some]
    simp only []
    rw [Apart_ok hv hn, Option.bind_some, if_neg (by simp), q2]
    rfl
theorem plain_ConstraintClasses {l : List SConstraint} {a b : Int} : m_law32_ConstraintClasses FU l a b = some true := classes_all fu_big awake32
end Go.Proofs.Ytkfffaoopcnaoaa.Ab
