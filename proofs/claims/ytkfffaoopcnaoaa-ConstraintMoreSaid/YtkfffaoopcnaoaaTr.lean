/- The law of more rules. Conditions: none. -/
import Derived.Test.YtkfffaoopcnaoaaTq
namespace Go.Proofs.Ytkfffaoopcnaoaa.Ab
open Go
section
variable {n : Nat} {l t : List SConstraint} {a b : Int}
theorem lk_more (h : ∀ x ∈ l, x ∈ t) {x y : Int} (hxy : Lk l x y) : Lk t x y := by
  obtain ⟨c, h1, h2⟩ := hxy
  exact ⟨c, h c h1, h2⟩
theorem root_more (h : ∀ x ∈ l, x ∈ t) {x y : Int} (hxy : root l x = root l y) : root t x = root t y := by
  have hc : Closed l fun z => root t z = root t y := fun c hc hk => class_closed t y c (h c hc) hk
  exact (root_closed hc hxy).2 rfl
theorem ball_more (h : ∀ x ∈ l, x ∈ t) : ∀ {k : Nat} {x : Int}, ball l b k x → ball t b k x
  | 0, _, hx => hx
  | k + 1, x, hx => by
    rcases hx with hx | ⟨y, h1, h2⟩
    · exact .inl (ball_more h hx)
    · exact .inr ⟨y, lk_more h h1, ball_more h h2⟩
theorem pth_length {k : Nat} (hd : D_ l b a k) : (pth l a b).length = k + 1 := by
  obtain ⟨p, hw⟩ := way_ex hd
  rw [pth_eq hd hw, List.length_cons, way_len hw]
theorem pth_more (h : ∀ x ∈ l, x ∈ t) (hr : root l a = root l b) : (pth t a b).length ≤ (pth l a b).length := by
  obtain ⟨k, hd⟩ := d_ex hr
  obtain ⟨j, h1, h2⟩ := d_of_ball (ball_more h hd.1)
  rw [pth_length hd, pth_length h2]; omega
theorem apL_more (h : ∀ x ∈ l, x ∈ t) (hap : apL l a b = true) : apL t a b = true := by
  unfold apL at *
  rw [List.any_eq_true] at *
  obtain ⟨x, hx, hc⟩ := hap
  refine ⟨x, h x hx, ?_⟩
  simp only [apC, Bool.and_eq_true, Bool.or_eq_true, decide_eq_true_eq] at *
  exact ⟨hc.1, hc.2.imp (fun q => ⟨root_more h q.1, root_more h q.2⟩) (fun q => ⟨root_more h q.1, root_more h q.2⟩)⟩
theorem cons_more (h : ∀ x ∈ l, x ∈ t) {u : SConflict} (hu : u ∈ cons l (norm l)) : ∃ v ∈ cons t (norm t), v.fPair = u.fPair ∧ v.fPath.length ≤ u.fPath.length := by
  unfold cons at *
  obtain ⟨x, hx, rfl⟩ := List.mem_map.1 hu
  obtain ⟨h1, h2⟩ := List.mem_filter.1 hx
  simp only [isCon, Bool.and_eq_true, decide_eq_true_eq] at h2
  obtain ⟨z, hz, rfl⟩ := norm_mem.1 h1
  refine ⟨conOf t (swp z), List.mem_map.2 ⟨swp z, List.mem_filter.2 ⟨norm_mem.2 ⟨z, h z hz, rfl⟩, ?_⟩, rfl⟩, rfl, pth_more h h2.2⟩
  simp only [isCon, Bool.and_eq_true, decide_eq_true_eq]
  exact ⟨h2.1, root_more h h2.2⟩
theorem more_all {p : A2} (hn : 1000000 < n) (haw : m_law32_awake n = some true) : m_law32_ConstraintMore n l t p = some true := by
  unfold m_law32_ConstraintMore
  rw [haw, Option.bind_some]
  by_cases hl : (7 : Int) < (l.length : Int)
  · rw [decide_eq_true hl]; rfl
  by_cases hl2 : (7 : Int) < (t.length : Int)
  · rw [decide_eq_false hl, decide_eq_true hl2]; rfl
  rw [decide_eq_false hl, decide_eq_false hl2, if_pos (by decide), refvalid_eq (by omega) hn, Option.bind_some]
  cases hv : validB l with
  | false => rfl
  | true =>
    rw [if_pos (by decide), refvalid_eq (by omega) hn, Option.bind_some]
    cases hv2 : validB t with
    | false => rfl
    | true =>
      have hva : validB (l ++ t) = true := by
        unfold validB at *
        simp only [Bool.and_eq_true, decide_eq_true_eq, Bool.not_eq_true', List.any_append, Bool.or_eq_false_iff, List.length_append] at *
        refine ⟨by omega, hv.2, hv2.2⟩
      have hsub : ∀ x ∈ l, x ∈ l ++ t := fun x hx => List.mem_append_left _ hx
      have ga := grp_len l p.e0
      have gb := grp_len (l ++ t) p.e0
      rw [List.length_append] at gb
      have n1 := norm_len l
      have n2 := norm_len (l ++ t)
      rw [List.length_append] at n2
      have c1 := cons_len (l := l) (norm l)
      have c2 := cons_len (l := l ++ t) (norm (l ++ t))
      rw [if_neg (by decide), show app 24 (([] : List SConstraint) : List SConstraint) l = some l from by rw [app_eq (by simp; omega) (by simp; omega)]; rfl, Option.bind_some, app_eq (by omega) (by omega), Option.bind_some,
        Group_ok hv hn, Option.bind_some, Group_ok hva hn, Option.bind_some, Apart_ok hv hn, Option.bind_some, Apart_ok hva hn, Option.bind_some, conflicts_eq hv hn, Option.bind_some, conflicts_eq hva hn, Option.bind_some]
      rw [if_neg (by
        have := apL_more (a := p.e0) (b := p.e1) hsub
        cases h1 : apL l p.e0 p.e1 with
        | false => simp
        | true => simp [this h1])]
      have q1 : iter n (fun s => m_law32_ConstraintMore_L1 n (grp l p.e0, 0) (grp (l ++ t) p.e0, 0) s) 0 = some (.inr ()) := by
        refine iter_to (f := fun s => m_law32_ConstraintMore_L1 n (grp l p.e0, 0) (grp (l ++ t) p.e0, 0) s) (fun j => (j : Int)) (grp l p.e0).length n _ (fun j hj => ?_) (by simp [m_law32_ConstraintMore_L1]) (by omega) rfl
        simp only [m_law32_ConstraintMore_L1]
        have hm := root_more hsub (grp_mem.1 (List.getElem_mem hj))
        rw [if_pos (decide_eq_true (by omega)), ixL hj, Option.bind_some, has_eq (by omega) hn, Option.bind_some, wadd1 hj (by simp only [ML]; omega), decide_eq_true (grp_mem.2 hm)]
        rfl
      have q2 : iter n (fun s => m_law32_ConstraintMore_L2 n (cons l (norm l), 0) (cons (l ++ t) (norm (l ++ t)), 0) s) 0 = some (.inr ()) := by
        refine iter_to (f := fun s => m_law32_ConstraintMore_L2 n (cons l (norm l), 0) (cons (l ++ t) (norm (l ++ t)), 0) s) (fun j => (j : Int)) (cons l (norm l)).length n _ (fun j hj => ?_) (by simp [m_law32_ConstraintMore_L2]) (by omega) rfl
        obtain ⟨v, hv1, hv2, hv3⟩ := cons_more hsub (List.getElem_mem hj)
        simp only [m_law32_ConstraintMore_L2]
        rw [if_pos (decide_eq_true (by omega)), ixL hj, Option.bind_some, wadd1 hj (by simp only [ML]; omega)]
        generalize (cons l (norm l))[j] = u at *
        let P : SConflict → Bool := fun v => (decide ((⟨v.fPair.fA, v.fPair.fB⟩ : SPair) = (⟨u.fPair.fA, u.fPair.fB⟩ : SPair))) && (decide ((v.fPath.length : Int) ≤ (u.fPath.length : Int)))
        generalize cons (l ++ t) (norm (l ++ t)) = C at *
        have q3 : iter n (fun s => m_law32_ConstraintMore_L3 n (C, 0) u s.1 s.2) (false, (0 : Int)) = some (C.any P) := by
          refine iter_to (f := fun s => m_law32_ConstraintMore_L3 n (C, 0) u s.1 s.2) (fun j => ((C.take j).any P, (j : Int))) C.length n _ (fun i hi => ?_) (by simp [m_law32_ConstraintMore_L3]) (by omega) rfl
          simp only [m_law32_ConstraintMore_L3]
          rw [if_pos (decide_eq_true (by omega)), ixL hi, Option.bind_some, wadd1 hi (by simp only [ML]; omega), take_snoc hi, List.any_append]
          simp [P]
        have hany : C.any P = true := List.any_eq_true.2 ⟨v, hv1, by
          simp only [P, Bool.and_eq_true, decide_eq_true_eq]
          exact ⟨hv2, by omega⟩⟩
        rw [q3, hany]
        rfl
      rw [q1, Option.bind_some]
      simp only []
      rw [q2]
      rfl
end
theorem plain_ConstraintMore {l t : List SConstraint} {p : A2} : m_law32_ConstraintMore FU l t p = some true := more_all fu_big awake32
end Go.Proofs.Ytkfffaoopcnaoaa.Ab
