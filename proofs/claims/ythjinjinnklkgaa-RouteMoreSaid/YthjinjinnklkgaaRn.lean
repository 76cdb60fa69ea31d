/- Plain laws, joined. Conditions: none. -/
import Derived.Test.YthjinjinnklkgaaRi
import Derived.Test.YthjinjinnklkgaaOk
namespace Go.Proofs.Ythjinjinnklkgaa.Ab
section
/- A problem that is easier has no dearer best assignment. Conditions: none. -/
open Go
theorem awakeM : m_law56_awake FU = some true := by decide +kernel
def cosB (p : SProblem) (a : List Int) : Int := costA (Cf p) p.fPenalty (Af a) 0 p.fCosts.length
theorem cosB_nn {p : SProblem} {a : List Int} (hv : VP p) (h : Best p a) : 0 ≤ cosB p a := by
  refine sumR_nn _ _ (fun i h1 h2 => ?_)
  unfold cst
  rcases h.pm.ok i h1 h2 with h3 | ⟨h3, h4, h5⟩
  · rw [if_pos h3]; exact hv.p1
  · rw [if_neg (by omega)]
    have := (hv.co i (Af a i).toNat (by omega) (by omega)).1
    have h6 : Cf p i (Af a i).toNat ≠ -1 := h5
    unfold Cf at h6 ⊢
    omega
theorem leastM_ok {p : SProblem} (hs : Sane p) (hvb : validB p = true) : ∃ a, Best p a ∧ m_law56_RouteMore_1 FU p = some (cosB p a) := by
  obtain ⟨a, x, s1, s2, s3⟩ := solve_ok hs hvb
  obtain ⟨k1, k2⟩ := check_ok hs hvb s2 s3
  have hv := vp_of hvb
  have hc := hv.c
  have hm := hv.r
  obtain ⟨r, r1, r2⟩ := checks (a := a) (x := x) hs (by rw [s3.l1]; simp only [ML]; omega) (by rw [s3.l2]; simp only [ML]; omega) (show ML < FU by decide)
  obtain rfl : r = 0 := Option.some.inj (r1.symm.trans k1)
  refine ⟨a, s2, ?_⟩
  unfold m_law56_RouteMore_1
  rw [show (⟨p.fCosts, p.fRoom, p.fPenalty⟩ : SProblem) = p from rfl, s1, Option.bind_some, k2, Option.bind_some]
  dsimp only
  rw [show (⟨x.fAsks, x.fLenders⟩ : SPrices) = x from rfl, r2]
  simp [cosB]
/-- q allows whatever p does, at no greater cost. -/
structure Eas (p q : SProblem) : Prop where
  k : q.fCosts.length = p.fCosts.length
  m : p.fRoom.length ≤ q.fRoom.length
  rm : ∀ j, j < p.fRoom.length → gI p.fRoom j ≤ gI q.fRoom j
  ra : ∀ j, j < q.fRoom.length → 0 ≤ gI q.fRoom j
  co : ∀ i j, i < p.fCosts.length → j < p.fRoom.length → Cf p i j ≠ -1 → Cf q i j ≠ -1 ∧ Cf q i j ≤ Cf p i j
  pe : q.fPenalty ≤ p.fPenalty
theorem Eas.le {p q : SProblem} (h : Eas p q) {a b : List Int} (ha : Best p a) (hb : Best q b) : cosB q b ≤ cosB p a := by
  have hk := h.k
  have hok : ∀ i, i < p.fCosts.length → okX q.fRoom.length (Cf q) i (Af a i) ∧ cst (Cf q) q.fPenalty i (Af a i) ≤ cst (Cf p) p.fPenalty i (Af a i) := fun i hi => by
    have hm := h.m
    rcases ha.pm.ok i (by omega) (by omega) with h3 | ⟨h3, h4, h5⟩
    · refine ⟨.inl h3, ?_⟩
      unfold cst; rw [if_pos h3, if_pos h3]; exact h.pe
    · obtain ⟨c1, c2⟩ := h.co i (Af a i).toNat hi (by omega) h5
      refine ⟨.inr ⟨h3, by omega, c1⟩, ?_⟩
      unfold cst; rw [if_neg (by omega), if_neg (by omega)]; exact c2
  have hP : Perm q.fRoom.length (Cf q) (Af a) 0 q.fCosts.length (gI q.fRoom) := by
    refine ⟨fun i _ h2 => (hok i (by omega)).1, fun j hj => ?_⟩
    rw [hk]
    by_cases hjm : j < p.fRoom.length
    · exact Int.le_trans (ha.pm.rm j hjm) (h.rm j hjm)
    · have h0 : cnt (Af a) 0 p.fCosts.length j = 0 := by
        unfold cnt
        refine (sumR_congr _ _ (fun i h1 h2 => ?_)).trans (sumR_zero _ _)
        rcases ha.pm.ok i h1 h2 with h3 | ⟨h3, h4, h5⟩
        · rw [if_neg (by omega)]
        · rw [if_neg (by omega)]
      rw [h0]; exact h.ra j hj
  refine Int.le_trans (hb.op _ hP) ?_
  unfold cosB costA
  rw [hk]
  exact sumR_le _ _ (fun i _ h2 => (hok i (by omega)).2)
end
section
/- The law RouteMore. Conditions: none. -/
open Go
/-- What makes a problem valid, by members. -/
theorem validB_iff {p : SProblem} : validB p = true ↔ p.fCosts.length ≤ 12 ∧ p.fRoom.length ≤ 12 ∧ (0 ≤ p.fPenalty ∧ p.fPenalty ≤ 10000) ∧ (∀ x ∈ p.fRoom, 0 ≤ x ∧ x ≤ 20) ∧ ∀ row ∈ p.fCosts, row.length = p.fRoom.length ∧ ∀ c ∈ row, -1 ≤ c ∧ c ≤ 10000 := by
  simp only [validB, Bool.and_eq_true, decide_eq_true_eq, inZ_t, List.all_eq_true]
  constructor
  · rintro ⟨⟨⟨⟨h1, h2⟩, h3⟩, h4⟩, h5⟩; exact ⟨h1, h2, h3, h4, h5⟩
  · rintro ⟨h1, h2, h3, h4, h5⟩; exact ⟨⟨⟨⟨h1, h2⟩, h3⟩, h4⟩, h5⟩
theorem saneB {p : SProblem} (h : validB p = true) : Sane p := by
  obtain ⟨h1, h2, _, _, h5⟩ := validB_iff.1 h
  exact ⟨by simp only [ML]; omega, by simp only [ML]; omega, fun x hx => by rw [(h5 x hx).1]; simp only [ML]; omega⟩
theorem getD_mem {α : Type} {l : List α} {i : Nat} {d : α} (h : i < l.length) : l.getD i d ∈ l := by simp [h]
theorem mem_set {α : Type} {l : List α} {i : Nat} {x y : α} (h : y ∈ l.set i x) : y ∈ l ∨ y = x := List.mem_or_eq_of_mem_set h
theorem getD_setM {α : Type} {l : List α} {i j : Nat} {x d : α} : (l.set i x).getD j d = if j = i ∧ j < l.length then x else l.getD j d := by
  simp only [List.getD_eq_getElem?_getD, List.getElem?_set]
  by_cases h : i = j
  · subst h
    by_cases h2 : i < l.length
    · simp [h2]
    · simp [h2]
  · rw [if_neg h, if_neg (by omega)]
theorem getD_app1 {α : Type} {l l' : List α} {i : Nat} {d : α} (h : i < l.length) : (l ++ l').getD i d = l.getD i d := by
  rw [List.getD_eq_getElem?_getD, List.getElem?_append_left h, List.getD_eq_getElem?_getD]
theorem getD_app2 {α : Type} {l l' : List α} {i : Nat} {d : α} (h : l.length ≤ i) : (l ++ l').getD i d = l'.getD (i - l.length) d := by
  rw [List.getD_eq_getElem?_getD, List.getElem?_append_right h, List.getD_eq_getElem?_getD]
/-- More room. -/
theorem eas_room {p : SProblem} (h : validB p = true) {j : Nat} (hj : j < p.fRoom.length) : let q : SProblem := ⟨p.fCosts, p.fRoom.set j (min 20 (p.fRoom.getD j 0 + 1)), p.fPenalty⟩; validB q = true ∧ Eas p q := by
  obtain ⟨h1, h2, h3, h4, h5⟩ := validB_iff.1 h
  have hx := h4 _ (getD_mem (d := 0) hj)
  refine ⟨validB_iff.2 ⟨h1, by simpa using h2, h3, fun x hxm => ?_, fun row hr => ?_⟩, rfl, by simp, fun i hi => ?_, fun i hi => ?_, fun i j hi hj hc => ⟨hc, Int.le_refl _⟩, Int.le_refl _⟩
  · rcases mem_set hxm with hm | rfl
    · exact h4 x hm
    · omega
  · simpa using h5 row hr
  · unfold gI
    rw [getD_setM]
    split
    · rename_i hh; rw [hh.1]; omega
    · exact Int.le_refl _
  · rw [List.length_set] at hi
    unfold gI
    rw [getD_setM]
    split
    · omega
    · exact (h4 _ (getD_mem (d := 0) hi)).1
/-- A lesser cost and penalty. -/
theorem eas_cheap {p : SProblem} (h : validB p = true) {i : Nat} (hi : i < p.fCosts.length) {row : List Int} {pen : Int} (hpen : 0 ≤ pen ∧ pen ≤ p.fPenalty) (hrl : row.length = p.fRoom.length)
    (hr : ∀ z, z < p.fRoom.length → (row.getD z 0 = -1 ∧ Cf p i z = -1) ∨ (Cf p i z ≠ -1 ∧ 0 ≤ row.getD z 0 ∧ row.getD z 0 ≤ Cf p i z)) : let q : SProblem := ⟨p.fCosts.set i row, p.fRoom, pen⟩; validB q = true ∧ Eas p q := by
  obtain ⟨h1, h2, h3, h4, h5⟩ := validB_iff.1 h
  have hv := vp_of h
  refine ⟨validB_iff.2 ⟨by simpa using h1, h2, ⟨hpen.1, Int.le_trans hpen.2 h3.2⟩, h4, fun r hrm => ?_⟩, by simp, Nat.le_refl _, fun _ _ => Int.le_refl _, fun z hz => (h4 _ (getD_mem (d := 0) hz)).1, fun z j hz hj hc => ?_, hpen.2⟩
  · rcases mem_set hrm with hm | rfl
    · exact h5 r hm
    · refine ⟨hrl, fun c hc => ?_⟩
      obtain ⟨z, hz, rfl⟩ := List.getElem_of_mem hc
      have e1 : r[z] = r.getD z 0 := by simp [hz]
      have e2 := hv.co i z hi (by omega)
      rw [e1]
      unfold Cf at hr
      rcases hr z (by omega) with hh | hh
      · omega
      · omega
  · unfold Cf
    rw [getD_setM]
    split
    · rename_i hh
      obtain ⟨rfl, _⟩ := hh
      unfold Cf at hr hc
      rcases hr j hj with hh | hh
      · exact absurd hh.2 hc
      · exact ⟨by omega, hh.2.2⟩
    · exact ⟨hc, Int.le_refl _⟩
/-- A further lender. -/
theorem eas_more {p : SProblem} (h : validB p = true) (hm : p.fRoom.length ≤ 11) {c : Nat → Int} (hc : ∀ k, -1 ≤ c k ∧ c k ≤ 10000) : let q : SProblem := ⟨(List.range p.fCosts.length).map fun k => p.fCosts.getD k [] ++ [c k], p.fRoom ++ [1], p.fPenalty⟩; validB q = true ∧ Eas p q := by
  obtain ⟨h1, h2, h3, h4, h5⟩ := validB_iff.1 h
  refine ⟨validB_iff.2 ⟨by simpa using h1, by simp; omega, h3, fun x hx => ?_, fun r hr => ?_⟩, by simp, by simp, fun j hj => ?_, fun j hj => ?_, fun i j hi hj hcc => ?_, Int.le_refl _⟩
  · rcases List.mem_append.1 hx with hx | hx
    · exact h4 x hx
    · simp at hx; omega
  · obtain ⟨k, hk, rfl⟩ := List.mem_map.1 hr
    have hk := List.mem_range.1 hk
    obtain ⟨e1, e2⟩ := h5 _ (getD_mem (d := []) hk)
    refine ⟨by rw [List.length_append, e1]; simp, fun x hx => ?_⟩
    rcases List.mem_append.1 hx with hx | hx
    · exact e2 x hx
    · simp at hx; subst hx; exact hc k
  · unfold gI
    rw [getD_app1 hj]; exact Int.le_refl _
  · rw [List.length_append, List.length_singleton] at hj
    unfold gI
    by_cases hjm : j < p.fRoom.length
    · rw [getD_app1 hjm]; exact (h4 _ (getD_mem (d := 0) hjm)).1
    · rw [getD_app2 (by omega), show j - p.fRoom.length = 0 by omega]; decide
  · have e1 : ((List.range p.fCosts.length).map fun k => p.fCosts.getD k [] ++ [c k]).getD i [] = p.fCosts.getD i [] ++ [c i] := by
      rw [List.getD_eq_getElem?_getD, List.getElem?_map, List.getElem?_range hi]; rfl
    have e2 := (h5 _ (getD_mem (d := []) hi)).1
    have e3 : Cf ⟨(List.range p.fCosts.length).map fun k => p.fCosts.getD k [] ++ [c k], p.fRoom ++ [1], p.fPenalty⟩ i j = Cf p i j := by
      show (((List.range p.fCosts.length).map fun k => p.fCosts.getD k [] ++ [c k]).getD i []).getD j 0 = (p.fCosts.getD i []).getD j 0
      rw [e1, getD_app1 (by omega)]
    rw [e3]
    exact ⟨hcc, Int.le_refl _⟩
/-- The column of the further lender. -/
def colM (row : List Int) (k : Nat) : Int := if k < row.length then max (-1) (min (row.getD k 0) 10000) else -1
theorem colM_in (row : List Int) (k : Nat) : -1 ≤ colM row k ∧ colM row k ≤ 10000 := by
  unfold colM; split <;> omega
theorem more_loop {p : SProblem} {row : List Int} (h : validB p = true) (hrow : row.length ≤ 12) :
    iter FU (fun s => m_law56_RouteMore_L1 FU p row s.1 s.2) ((0 : Int), []) = some ((List.range p.fCosts.length).map fun k => p.fCosts.getD k [] ++ [colM row k]) := by
  obtain ⟨h1, h2, h3, h4, h5⟩ := validB_iff.1 h
  refine iter_to (st := fun j => ((j : Int), (List.range j).map fun k => p.fCosts.getD k [] ++ [colM row k])) p.fCosts.length FU _ (fun j hj => ?_) ?_ (by simp only [FU]; omega) rfl
  · unfold m_law56_RouteMore_L1
    have e2 := (h5 _ (getD_mem (d := []) hj)).1
    simp only [show ((j : Int) < (p.fCosts.length : Int)) from by omega, decide_true, if_true]
    rw [ix_get [] hj, Option.bind_some]
    have e3 : ((if decide ((j : Int) < (row.length : Int)) = true then (ix row (j : Int)).bind fun v39 => some (max (-1 : Int) (min v39 10000)) else some (-1)) : Option Int) = some (colM row j) := by
      unfold colM
      by_cases hc : j < row.length
      · rw [if_pos (by simp; omega), ix_get 0 hc, Option.bind_some, if_pos hc]
      · rw [if_neg (by simp; omega), if_neg hc]
    rw [e3, Option.bind_some, app_eq (by rw [List.length_nil]; omega) (by rw [List.length_nil]; omega), Option.bind_some, List.nil_append, app_one (by omega) (by omega), Option.bind_some, app_one (by simp; omega) (by simp; omega), Option.bind_some, wadd1 hj (by simp only [ML]; omega), List.range_succ, List.map_append]
    rfl
  · unfold m_law56_RouteMore_L1
    simp
theorem three_loop {p q1 q2 q3 : SProblem} {n : Int} {a1 : SProblem} {v7 : Int} {v14 : List Int} {v15 : Int} {t33 : List (Bool × List Int)} {v35 : List Int} {t36 : List (List Int)}
    (e1 : (⟨a1.fCosts, v14, a1.fPenalty⟩ : SProblem) = q1) (e2 : (⟨(t33.map Prod.snd), a1.fRoom, v15⟩ : SProblem) = q2) (e3 : (⟨t36, v35, a1.fPenalty⟩ : SProblem) = q3)
    (h : ∀ q, q = q1 ∨ q = q2 ∨ q = q3 → ∃ m, m_law56_RouteMore_1 FU q = some m ∧ 0 ≤ m ∧ m ≤ v7) :
    iter FU (fun s => m_law56_RouteMore_L2 FU a1 v7 v14 v15 t33 v35 t36 s) (0 : Int) = some (.inr ()) := by
  refine iter_to (st := fun j => (j : Int)) 3 FU _ (fun j hj => ?_) ?_ (by decide) rfl
  · unfold m_law56_RouteMore_L2
    rw [e1, e2, e3]
    simp only [show ((j : Int) < (([q1, q2, q3] : List SProblem).length : Int)) from by simp; omega, decide_true, if_true]
    have hx : ∃ q, (q = q1 ∨ q = q2 ∨ q = q3) ∧ ix ([q1, q2, q3] : List SProblem) (j : Int) = some q := by
      match j, hj with
      | 0, _ => exact ⟨q1, .inl rfl, rfl⟩
      | 1, _ => exact ⟨q2, .inr (.inl rfl), rfl⟩
      | 2, _ => exact ⟨q3, .inr (.inr rfl), rfl⟩
      | j + 3, h => omega
    obtain ⟨q, hq, hix⟩ := hx
    obtain ⟨m, m1, m2, m3⟩ := h q hq
    rw [hix, Option.bind_some, show (⟨q.fCosts, q.fRoom, q.fPenalty⟩ : SProblem) = q from rfl, m1, Option.bind_some]
    rw [if_neg (by simp; omega), wadd1 (m := 3) hj (by decide)]
  · unfold m_law56_RouteMore_L2
    simp
theorem rem_in {a : Int} {n : Nat} (ha : 0 ≤ a) (hn : n ≠ 0) : ∃ j : Nat, j < n ∧ rem a (n : Int) = some (j : Int) := by
  refine ⟨(a.tmod n).toNat, ?_, ?_⟩
  · have h1 := Int.tmod_lt_of_pos a (show (0 : Int) < n by omega)
    have h2 := Int.tmod_nonneg (n : Int) ha
    omega
  · unfold rem
    rw [if_neg (by omega)]
    have h2 := Int.tmod_nonneg (n : Int) ha
    rw [Int.toNat_of_nonneg h2]
theorem nl_snd_set {l : List (List Int)} {i : Nat} {row : List Int} {b : Bool} : (((l.map fun r => (false, r)).set i (b, row)).map Prod.snd) = l.set i row := by
  rw [List.map_set, List.map_map]
  congr 1
  exact List.map_id _
theorem plain_RouteMore {p : SProblem} {at_ : A22} {row : List Int} (hs : Sane p) (ha : 0 ≤ at_.e0 ∧ at_.e0 ≤ 255) (hb : 0 ≤ at_.e1 ∧ at_.e1 ≤ 255) : m_law56_RouteMore FU p at_ row = some true := by
  unfold m_law56_RouteMore
  rw [awakeM, Option.bind_some]
  simp only [Bool.not_true, Bool.not_false, if_true]
  rw [show (⟨p.fCosts, p.fRoom, p.fPenalty⟩ : SProblem) = p from rfl, refValid hs (by decide), Option.bind_some]
  cases h : validB p with
  | false => simp
  | true =>
    simp only [Bool.not_true, Bool.false_or]
    split
    · rfl
    · rename_i hc
      simp only [Bool.or_eq_true, decide_eq_true_eq, not_or, Int.not_lt] at hc
      obtain ⟨⟨⟨⟨c1, c2⟩, c3⟩, c4⟩, c5⟩ := hc
      have hv := vp_of h
      obtain ⟨h1, h2, h3, h4, h5⟩ := validB_iff.1 h
      obtain ⟨a, hB, hA⟩ := leastM_ok hs h
      have hnn := cosB_nn hv hB
      rw [hA, Option.bind_some, w64 (by omega) (by omega), w64 (by omega) (by omega)]
      obtain ⟨i, hi, e1⟩ := rem_in (a := at_.e0) (n := p.fCosts.length) ha.1 (by omega)
      obtain ⟨j, hj, e2⟩ := rem_in (a := at_.e1) (n := p.fRoom.length) hb.1 (by omega)
      have hrow := (h5 _ (getD_mem (d := []) hi)).1
      have hx := h4 _ (getD_mem (d := 0) hj)
      rw [e1, Option.bind_some, e2, Option.bind_some, app_eq (by simp; omega) (by simp; omega), Option.bind_some, List.nil_append, ix_get 0 hj]
      simp only [Option.bind_some]
      rw [w64 (by omega) (by omega), setI_get (by omega) (by simpa using hj), Option.bind_some]
      have e3 : quo .i64 p.fPenalty 2 = some (p.fPenalty / 2) := by
        unfold quo; rw [if_neg (by decide), quo64 h3.1 (by decide) (by omega)]
      rw [e3, Option.bind_some, app_eq (by simp; omega) (by simp; omega), Option.bind_some, List.nil_append]
      have hne : p.fCosts ≠ [] := fun h0 => by rw [h0] at hi; simp at hi
      have e4 : toNl p.fCosts = some (p.fCosts.map fun r => (false, r)) := by unfold toNl; rw [if_neg hne]
      rw [e4, Option.bind_some, ix_get [] hi, Option.bind_some, app_eq (by rw [List.length_nil]; omega) (by rw [List.length_nil]; omega), Option.bind_some, List.nil_append, ix_get (false, []) (by simpa using hi), Option.bind_some]
      have e5 : nlRow (p.fCosts.map fun r => (false, r)) (i : Int) (p.fCosts.getD i []) = some ((p.fCosts.map fun r => (false, r)).set i (true, p.fCosts.getD i [])) := by
        unfold nlRow; rw [if_pos ⟨by omega, by simpa using hi⟩]; rfl
      rw [e5, Option.bind_some]
      have hil : i < ((p.fCosts.map fun r => (false, r)).set i (true, p.fCosts.getD i [])).length := by simpa using hi
      have e6 : ix ((p.fCosts.map fun r => (false, r)).set i (true, p.fCosts.getD i [])) (i : Int) = some (true, p.fCosts.getD i []) := by
        rw [ix_get (false, []) hil, getD_setM, if_pos ⟨rfl, by simpa using hi⟩]
      have e7 : nlGet ((p.fCosts.map fun r => (false, r)).set i (true, p.fCosts.getD i [])) (i : Int) (j : Int) = some (Cf p i j) := by
        unfold nlGet; rw [e6, Option.bind_some]; exact ix_get 0 (show j < (p.fCosts.getD i []).length by omega)
      have hco := hv.co i j hi hj
      have hcf : Cf p i j = (p.fCosts.getD i []).getD j 0 := rfl
      have e8 : quo .i64 (Cf p i j) 2 = some (Cf p i j / 2) ∨ ¬ (0 < Cf p i j) := by
        by_cases h0 : 0 < Cf p i j
        · left; unfold quo; rw [if_neg (by decide), quo64 (by omega) (by decide) (by omega)]
        · exact .inr h0
      obtain ⟨t33, hrow', e9⟩ : ∃ t33 : List (Bool × List Int), (∃ r' : List Int, t33.map Prod.snd = p.fCosts.set i r' ∧ r'.length = p.fRoom.length ∧ ∀ z, z < p.fRoom.length → (r'.getD z 0 = -1 ∧ Cf p i z = -1) ∨ (Cf p i z ≠ -1 ∧ 0 ≤ r'.getD z 0 ∧ r'.getD z 0 ≤ Cf p i z)) ∧
          ((ix ((p.fCosts.map fun r => (false, r)).set i (true, p.fCosts.getD i [])) (i : Int)).bind fun _ => (ix ((p.fCosts.map fun r => (false, r)).set i (true, p.fCosts.getD i [])) (i : Int)).bind fun _ =>
            (nlGet ((p.fCosts.map fun r => (false, r)).set i (true, p.fCosts.getD i [])) (i : Int) (j : Int)).bind fun _ => (nlGet ((p.fCosts.map fun r => (false, r)).set i (true, p.fCosts.getD i [])) (i : Int) (j : Int)).bind fun v25 =>
              if (decide ((0 : Int) < v25)) = true then
                (ix ((p.fCosts.map fun r => (false, r)).set i (true, p.fCosts.getD i [])) (i : Int)).bind fun _ => (ix ((p.fCosts.map fun r => (false, r)).set i (true, p.fCosts.getD i [])) (i : Int)).bind fun _ =>
                (nlGet ((p.fCosts.map fun r => (false, r)).set i (true, p.fCosts.getD i [])) (i : Int) (j : Int)).bind fun _ => (nlGet ((p.fCosts.map fun r => (false, r)).set i (true, p.fCosts.getD i [])) (i : Int) (j : Int)).bind fun v29 =>
                (quo .i64 v29 (2 : Int)).bind fun v30 => (nlGet ((p.fCosts.map fun r => (false, r)).set i (true, p.fCosts.getD i [])) (i : Int) (j : Int)).bind fun _ =>
                (nlPut ((p.fCosts.map fun r => (false, r)).set i (true, p.fCosts.getD i [])) (i : Int) (j : Int) v30).bind fun v32 => some v32
              else some ((p.fCosts.map fun r => (false, r)).set i (true, p.fCosts.getD i []))) = some t33 := by
        have hbase : ∀ z, z < p.fRoom.length → ((p.fCosts.getD i []).getD z 0 = -1 ∧ Cf p i z = -1) ∨ (Cf p i z ≠ -1 ∧ 0 ≤ (p.fCosts.getD i []).getD z 0 ∧ (p.fCosts.getD i []).getD z 0 ≤ Cf p i z) := fun z hz => by
          have := hv.co i z hi hz
          unfold Cf
          omega
        simp only [e6, e7, Option.bind_some]
        by_cases h0 : 0 < Cf p i j
        · rcases e8 with e8 | e8
          · refine ⟨((p.fCosts.map fun r => (false, r)).set i (true, p.fCosts.getD i [])).set i (true, (p.fCosts.getD i []).set j (Cf p i j / 2)), ⟨(p.fCosts.getD i []).set j (Cf p i j / 2), ?_, by rw [List.length_set]; exact hrow, fun z hz => ?_⟩, ?_⟩
            · rw [List.set_set]; exact nl_snd_set
            · rw [getD_setM]
              split
              · rename_i hh; obtain ⟨rfl, _⟩ := hh; right; omega
              · exact hbase z hz
            · rw [if_pos (by simpa using h0), e8, Option.bind_some]
              have e10 : nlPut ((p.fCosts.map fun r => (false, r)).set i (true, p.fCosts.getD i [])) (i : Int) (j : Int) (Cf p i j / 2) = some (((p.fCosts.map fun r => (false, r)).set i (true, p.fCosts.getD i [])).set i (true, (p.fCosts.getD i []).set j (Cf p i j / 2))) := by
                unfold nlPut
                rw [e6, Option.bind_some, if_pos rfl, setI_get (by omega) (by simp only [Int.toNat_natCast]; omega)]
                rfl
              rw [e10]; rfl
          · exact absurd h0 e8
        · exact ⟨_, ⟨p.fCosts.getD i [], nl_snd_set, hrow, hbase⟩, by rw [if_neg (by simpa using h0)]⟩
      rw [e9, Option.bind_some, app_one (by omega) (by omega), Option.bind_some, more_loop h (by omega), Option.bind_some]
      obtain ⟨r', r1, r2, r3⟩ := hrow'
      have k1 := eas_room h hj
      have k2 := eas_cheap h hi (pen := p.fPenalty / 2) (by omega) r2 r3
      have k3 := eas_more h (by omega) (colM_in row)
      rw [three_loop (p := p) (n := 0) (a1 := p) (v7 := cosB p a) rfl (by rw [r1]) rfl (fun q hq => ?_)]
      · simp; omega
      · have key : ∀ q, validB q = true ∧ Eas p q → ∃ m, m_law56_RouteMore_1 FU q = some m ∧ 0 ≤ m ∧ m ≤ cosB p a := fun q ⟨q1, q2⟩ => by
          obtain ⟨b, hb1, hb2⟩ := leastM_ok (saneB q1) q1
          exact ⟨_, hb2, cosB_nn (vp_of q1) hb1, q2.le hB hb1⟩
        rcases hq with rfl | rfl | rfl
        · exact key _ k1
        · exact key _ k2
        · exact key _ k3
theorem plain_RouteMore2 {p : SProblem} {at_ : A22} {row : List Int} (h1 : Ok25 9223372036854775807 p) (h2 : Ok47 9223372036854775807 at_) (_h3 : Ok23 9223372036854775807 row) : m_law56_RouteMore FU p at_ row = some true := by
  refine plain_RouteMore ⟨h1.1.1, h1.2.1.1, fun x hx => (h1.1.2 x hx).1⟩ ?_ ?_
  · have h := h2.1
    simp [Ok5, Lit.wf, IntKind.min, IntKind.max, IntKind.signed, IntKind.bits] at h; omega
  · have h := h2.2
    simp [Ok5, Lit.wf, IntKind.min, IntKind.max, IntKind.signed, IntKind.bits] at h; omega
end
end Go.Proofs.Ythjinjinnklkgaa.Ab
