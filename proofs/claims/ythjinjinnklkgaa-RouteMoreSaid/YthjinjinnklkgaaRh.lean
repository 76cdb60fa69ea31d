/- Prices that prove that an assignment is best. Conditions: none. -/
import Derived.Test.YthjinjinnklkgaaRg
namespace Go.Proofs.Ythjinjinnklkgaa.Ab
open Go
theorem gI_snoc {al : List Int} {x : Int} {z : Nat} : gI (al ++ [x]) z = if z = al.length then x else gI al z := by
  unfold gI
  simp only [List.getD_eq_getElem?_getD, List.getElem?_append]
  by_cases h : z < al.length
  · rw [if_pos h, if_neg (by omega)]
  · rw [if_neg h]
    by_cases h2 : z = al.length
    · subst h2; simp
    · rw [if_neg h2, List.getElem?_eq_none (by simp; omega), List.getElem?_eq_none (by omega)]
section
variable {p : SProblem} {a : List Int}
/-- What a request pays, but for one lender. -/
def Pays (p : SProblem) (w : Nat → Int) (i : Nat) (but P : Int) : Prop :=
  P ≤ p.fPenalty ∧ (∀ j, j < p.fRoom.length → (j : Int) ≠ but → Cf p i j ≠ -1 → P ≤ Cf p i j + w j) ∧ (P = p.fPenalty ∨ ∃ j, j < p.fRoom.length ∧ (j : Int) ≠ but ∧ Cf p i j ≠ -1 ∧ P = Cf p i j + w j)
theorem pays_ok (hv : VP p) {asks w : List Int} (hw : w.length = p.fRoom.length) (hwr : ∀ j, j < p.fRoom.length → 0 ≤ gI w j ∧ gI w j ≤ 10000) {i : Nat} (hi : i < p.fCosts.length) (but : Int) :
    ∃ P, m_route_Problem_prices_1 FU (i : Int) but p ⟨asks, w⟩ = some P ∧ Pays p (gI w) i but P := by
  have hrow := hv.row i hi
  have hm := hv.r
  have hp1 := hv.p1
  have hp2 := hv.p2
  unfold m_route_Problem_prices_1
  rw [ixC hi, Option.bind_some]
  obtain ⟨P, h1, h2⟩ := iter_inv (σ := Int × Int) (τ := Int) (f := fun s => m_route_Problem_prices_1_L1 FU but ⟨asks, w⟩ (p.fCosts.getD i []) s.1 s.2)
    (I := fun kk s => ∃ (q : Nat) (P : Int), s = (P, (q : Int)) ∧ q + kk = p.fRoom.length ∧ P ≤ p.fPenalty ∧ (∀ j, j < q → (j : Int) ≠ but → Cf p i j ≠ -1 → P ≤ Cf p i j + gI w j) ∧ (P = p.fPenalty ∨ ∃ j, j < p.fRoom.length ∧ (j : Int) ≠ but ∧ Cf p i j ≠ -1 ∧ P = Cf p i j + gI w j))
    (Q := fun P => Pays p (gI w) i but P) (by
      rintro kk s ⟨q, P, rfl, g1, g2, g3, g4⟩
      simp only [m_route_Problem_prices_1_L1]
      by_cases hk : kk = 0
      · right
        exact ⟨P, by rw [decide_eq_false (by omega)]; rfl, g2, fun j hj => g3 j (by omega), g4⟩
      · left
        have hq : q < (p.fCosts.getD i []).length := by omega
        have hco : -1 ≤ gI (p.fCosts.getD i []) q ∧ gI (p.fCosts.getD i []) q ≤ 10000 := hv.co i q hi (by omega)
        have hCf : gI (p.fCosts.getD i []) q = Cf p i q := rfl
        have hwq := hwr q (by omega)
        rw [decide_eq_true (show (q : Int) < ((p.fCosts.getD i []).length : Int) by omega), if_pos rfl, ixG hq, Option.bind_some]
        by_cases hc : (q : Int) ≠ but ∧ gI (p.fCosts.getD i []) q ≠ -1
        · rw [decide_eq_false hc.1, decide_eq_false hc.2]
          simp only [Bool.not_false, Bool.and_self, if_true]
          rw [ixG (show q < w.length by omega)]
          simp only [Option.bind_some]
          rw [w64 (x := gI (p.fCosts.getD i []) q + gI w q) (by omega) (by omega), wadd1 (show q < 12 by omega) (by decide)]
          refine ⟨_, kk - 1, rfl, by omega, q + 1, _, rfl, by omega, by omega, fun j hj hjb hcj => ?_, ?_⟩
          · by_cases hjq : j = q
            · subst hjq; rw [← hCf]; omega
            · have := g3 j (by omega) hjb hcj; omega
          · by_cases hle : P ≤ gI (p.fCosts.getD i []) q + gI w q
            · rw [Int.min_eq_left hle]; exact g4
            · rw [Int.min_eq_right (by omega)]; exact .inr ⟨q, by omega, hc.1, hCf ▸ hc.2, by rw [← hCf]⟩
        · have hf : (!decide ((q : Int) = but) && !decide (gI (p.fCosts.getD i []) q = -1)) = false := by
            by_cases h1 : (q : Int) = but
            · rw [decide_eq_true h1]; rfl
            · have h2 : gI (p.fCosts.getD i []) q = -1 := Classical.not_not.1 (fun h => hc ⟨h1, h⟩)
              rw [decide_eq_true h2]; simp
          rw [hf]
          simp only [Bool.false_eq_true, if_false, Option.bind_some]
          rw [wadd1 (show q < 12 by omega) (by decide)]
          refine ⟨_, kk - 1, rfl, by omega, q + 1, P, rfl, by omega, g2, fun j hj hjb hcj => ?_, g4⟩
          by_cases hjq : j = q
          · subst hjq; exact absurd ⟨hjb, hCf ▸ hcj⟩ hc
          · exact g3 j (by omega) hjb hcj) p.fRoom.length FU (p.fPenalty, 0) ⟨0, p.fPenalty, rfl, by omega, Int.le_refl _, fun j hj => by omega, .inl rfl⟩ (by simp only [FU]; omega)
  exact ⟨P, by rw [h1]; rfl, h2⟩
/-- How many requests the lenders have. -/
theorem prices_L1 (hv : VP p) (ha : a.length = p.fCosts.length) (hP : Perm p.fRoom.length (Cf p) (Af a) 0 p.fCosts.length (gI p.fRoom)) :
    ∃ t, iter FU (fun s => m_route_Problem_prices_L1 FU a s.1 s.2) ((0 : Int), List.replicate p.fRoom.length (0 : Int)) = some t ∧ t.length = p.fRoom.length ∧ ∀ j, j < p.fRoom.length → gI t j = cnt (Af a) 0 p.fCosts.length j := by
  have hc := hv.c
  refine iter_inv (σ := Int × List Int) (τ := List Int) (I := fun kk s => ∃ (i : Nat) (u : List Int), s = ((i : Int), u) ∧ i + kk = p.fCosts.length ∧ u.length = p.fRoom.length ∧ ∀ j, j < p.fRoom.length → gI u j = cnt (Af a) 0 i j)
    (Q := fun t => t.length = p.fRoom.length ∧ ∀ j, j < p.fRoom.length → gI t j = cnt (Af a) 0 p.fCosts.length j) (by
      rintro kk s ⟨i, u, rfl, g1, g2, g3⟩
      simp only [m_route_Problem_prices_L1]
      by_cases hk : kk = 0
      · right
        have e : i = p.fCosts.length := by omega
        exact ⟨u, by rw [decide_eq_false (by omega)]; rfl, g2, fun j hj => by rw [g3 j hj, e]⟩
      · left
        have hi : i < a.length := by omega
        have hcs : ∀ j : Nat, cnt (Af a) 0 (i + 1) j = cnt (Af a) 0 i j + (if Af a i = (j : Int) then 1 else 0) := fun j => by
          unfold cnt; rw [sumR_snoc, Nat.zero_add]
        rw [decide_eq_true (show (i : Int) < (a.length : Int) by omega), if_pos rfl, ixA hi, Option.bind_some, wadd1 (show i < 12 by omega) (by decide)]
        rcases okX_cases (hP.ok i (by omega) (by omega)) with e | ⟨j, e, hj, _⟩
        · rw [e]
          simp only [decide_true, Bool.not_true, Bool.false_eq_true, if_false, Option.bind_some]
          refine ⟨_, kk - 1, rfl, by omega, i + 1, u, rfl, by omega, g2, fun z hz => ?_⟩
          rw [hcs, e, if_neg (by omega), g3 z hz]; omega
        · rw [e, decide_eq_false (show ¬ (j : Int) = -1 by omega)]
          have hcb : 0 ≤ cnt (Af a) 0 i j ∧ cnt (Af a) 0 i j ≤ i := ⟨cnt_nn, by
            have := sumR_le i 0 (f := fun z => if Af a z = (j : Int) then 1 else 0) (g := fun _ => 1) (fun z _ _ => by split <;> omega)
            have e : ∀ (k lo : Nat), sumR (fun _ => 1) lo k = k := by
              intro k
              induction k with
              | zero => intro lo; rfl
              | succ k ih => intro lo; rw [sumR, ih]; omega
            rw [e] at this
            exact this⟩
          simp only [Bool.not_false, if_true]
          rw [ixG (show j < u.length by omega)]
          simp only [Option.bind_some]
          rw [g3 j hj, w64 (by omega) (by omega), setG (by omega), Option.bind_some, Option.bind_some]
          refine ⟨_, kk - 1, rfl, by omega, i + 1, _, rfl, by omega, by simp [g2], fun z hz => ?_⟩
          rw [gI_set (by omega), hcs, e]
          by_cases hjz : j = z
          · subst hjz; rw [if_pos rfl, if_pos rfl]
          · rw [if_neg hjz, if_neg (by omega), g3 z hz]; omega) p.fCosts.length FU (0, List.replicate p.fRoom.length 0) ⟨0, _, rfl, by omega, by simp, fun j hj => by rw [gI_rep hj]; rfl⟩ (by simp only [FU]; omega)
theorem prices_L2 (hv : VP p) {u : List Int} (hu : u.length = p.fRoom.length) :
    ∃ t, iter FU (fun s => m_route_Problem_prices_L2 FU p u s.1 s.2) ((0 : Int), []) = some t ∧ t.length = p.fRoom.length ∧ ∀ j, j < p.fRoom.length → gI t j = if gI u j < gI p.fRoom j then 0 else p.fPenalty := by
  have hm := hv.r
  refine iter_inv (σ := Int × List Int) (τ := List Int) (I := fun kk s => ∃ (i : Nat) (w : List Int), s = ((i : Int), w) ∧ i + kk = p.fRoom.length ∧ w.length = i ∧ ∀ j, j < i → gI w j = if gI u j < gI p.fRoom j then 0 else p.fPenalty)
    (Q := fun t => t.length = p.fRoom.length ∧ ∀ j, j < p.fRoom.length → gI t j = if gI u j < gI p.fRoom j then 0 else p.fPenalty) (by
      rintro kk s ⟨i, w, rfl, g1, g2, g3⟩
      simp only [m_route_Problem_prices_L2]
      by_cases hk : kk = 0
      · right
        exact ⟨w, by rw [decide_eq_false (by omega)]; rfl, by omega, fun j hj => g3 j (by omega)⟩
      · left
        have hi : i < p.fRoom.length := by omega
        rw [decide_eq_true (show (i : Int) < (p.fRoom.length : Int) by omega), if_pos rfl, ixG hi, Option.bind_some, ixG (show i < u.length by omega)]
        simp only [Option.bind_some]
        have hx : (if decide (gI u i < gI p.fRoom i) = true then some (0 : Int) else some p.fPenalty) = some (if gI u i < gI p.fRoom i then 0 else p.fPenalty) := by
          by_cases h : gI u i < gI p.fRoom i
          · rw [decide_eq_true h, if_pos rfl, if_pos h]
          · rw [decide_eq_false h, if_neg (by decide), if_neg h]
        rw [hx, Option.bind_some, app_some (by decide) (by simp; omega), Option.bind_some, wadd1 (show i < 12 by omega) (by decide)]
        refine ⟨_, kk - 1, rfl, by omega, i + 1, _, rfl, by omega, by simp [g2], fun j hj => ?_⟩
        rw [gI_snoc, g2]
        by_cases hji : j = i
        · subst hji; rw [if_pos rfl]
        · rw [if_neg hji]; exact g3 j (by omega)) p.fRoom.length FU (0, []) ⟨0, [], rfl, by omega, rfl, fun j hj => by omega⟩ (by simp only [FU]; omega)
/-- Prices on the way down to those of a certificate. -/
structure FI (p : SProblem) (a : List Int) (w : Nat → Int) (l : List Int) : Prop where
  len : l.length = p.fRoom.length
  rg : ∀ j, j < p.fRoom.length → w j ≤ gI l j ∧ gI l j ≤ p.fPenalty
  z : ∀ j, j < p.fRoom.length → cnt (Af a) 0 p.fCosts.length j < gI p.fRoom j → gI l j = 0
def Fix (p : SProblem) (a : List Int) (l : List Int) (i : Nat) : Prop :=
  ∀ j : Nat, Af a i = j → Cf p i j + gI l j ≤ p.fPenalty ∧ ∀ y, y < p.fRoom.length → Cf p i y ≠ -1 → Cf p i j + gI l j ≤ Cf p i y + gI l y
def sumL (p : SProblem) (l : List Int) : Int := sumR (gI l) 0 p.fRoom.length
theorem prices_L4 (hv : VP p) {w : Nat → Int} (ha : a.length = p.fCosts.length) (hP : Perm p.fRoom.length (Cf p) (Af a) 0 p.fCosts.length (gI p.fRoom)) (hw : Cert p.fRoom.length (Cf p) p.fPenalty w (Af a) 0 p.fCosts.length (gI p.fRoom)) {l : List Int} (hF : FI p a w l) :
    ∃ t : Bool × List Int, iter FU (fun s => m_route_Problem_prices_L4 FU p a s.1 s.2.1 s.2.2) (false, (0 : Int), l) = some t ∧ FI p a w t.2 ∧ (t.1 = false → ∀ i, i < p.fCosts.length → Fix p a t.2 i) ∧ (t.1 = true → sumL p t.2 < sumL p l) := by
  have hc := hv.c
  have hp1 := hv.p1
  have hp2 := hv.p2
  refine iter_inv (σ := Bool × Int × List Int) (τ := Bool × List Int) (I := fun kk s => ∃ (i : Nat) (ch : Bool) (u : List Int), s = (ch, (i : Int), u) ∧ i + kk = p.fCosts.length ∧ FI p a w u ∧ (ch = false → u = l ∧ ∀ z, z < i → Fix p a u z) ∧ (ch = true → sumL p u < sumL p l) ∧ sumL p u ≤ sumL p l)
    (Q := fun t : Bool × List Int => FI p a w t.2 ∧ (t.1 = false → ∀ i, i < p.fCosts.length → Fix p a t.2 i) ∧ (t.1 = true → sumL p t.2 < sumL p l)) (by
      rintro kk s ⟨i, ch, u, rfl, g1, g2, g3, g4, g5⟩
      simp only [m_route_Problem_prices_L4]
      by_cases hk : kk = 0
      · right
        have e : i = p.fCosts.length := by omega
        subst e
        exact ⟨(ch, u), by rw [decide_eq_false (by omega)]; rfl, g2, fun h => (g3 h).2, g4⟩
      · left
        have hi : i < a.length := by omega
        have hin : i < p.fCosts.length := by omega
        rw [decide_eq_true (show (i : Int) < (a.length : Int) by omega), if_pos rfl, ixA hi, Option.bind_some, wadd1 (show i < 12 by omega) (by decide)]
        rcases okX_cases (hP.ok i (by omega) (by omega)) with e | ⟨j, e, hj, hcj⟩
        · rw [e]
          simp only [decide_true, if_true, Option.bind_some]
          refine ⟨_, kk - 1, rfl, by omega, i + 1, ch, u, rfl, by omega, g2, fun h => ⟨(g3 h).1, fun z hz => ?_⟩, g4, g5⟩
          by_cases hzi : z = i
          · subst hzi; intro y hy; rw [e] at hy; omega
          · exact (g3 h).2 z (by omega)
        · rw [e, decide_eq_false (show ¬ (j : Int) = -1 by omega)]
          simp only [Bool.false_eq_true, if_false]
          have hur : ∀ y, y < p.fRoom.length → 0 ≤ gI u y ∧ gI u y ≤ 10000 := fun y hy => by
            have := g2.rg y hy
            have := hw.nn y hy
            omega
          obtain ⟨P, P1, P2, P3, P4⟩ := pays_ok hv (asks := []) g2.len hur hin (j : Int)
          have hco : -1 ≤ gI (p.fCosts.getD i []) j ∧ gI (p.fCosts.getD i []) j ≤ 10000 := hv.co i j hin hj
          have hCf : gI (p.fCosts.getD i []) j = Cf p i j := rfl
          have huj := hur j hj
          -- not less than what the certificate says
          have hlow : w j ≤ P - Cf p i j := by
            have t := hw.ti i (by omega) (by omega)
            rw [e, cst_j, tak_j] at t
            rcases P4 with h | ⟨y, hy, hyj, hcy, h⟩
            · have := t (-1) (.inl rfl)
              rw [cst_n, tak_n] at this; omega
            · have := t (y : Int) (okX_j hy hcy)
              rw [cst_j, tak_j] at this
              have := (g2.rg y hy).1
              omega
          have hwj := hw.nn j hj
          rw [show (⟨p.fCosts, p.fRoom, p.fPenalty⟩ : SProblem) = p from rfl, P1, Option.bind_some, ixC hin, Option.bind_some, ixG (by rw [hv.row i hin]; exact hj), Option.bind_some, ixG (by rw [g2.len]; exact hj)]
          simp only [Option.bind_some]
          rw [w64 (x := P - gI (p.fCosts.getD i []) j) (by omega) (by omega)]
          by_cases hlt : P - gI (p.fCosts.getD i []) j < gI u j
          · simp only [hlt, decide_true, if_true]
            rw [setG (by rw [g2.len]; exact hj)]
            simp only [Option.bind_some]
            have hg : ∀ y, gI (u.set j (P - gI (p.fCosts.getD i []) j)) y = if j = y then P - gI (p.fCosts.getD i []) j else gI u y := fun y => gI_set (by rw [g2.len]; exact hj)
            have hsum : sumL p (u.set j (P - gI (p.fCosts.getD i []) j)) < sumL p u := by
              unfold sumL
              rw [sumR_upd (r := j) (by omega) (by omega) (f := gI u) (fun y _ _ hy => by rw [hg, if_neg (Ne.symm hy)]), hg, if_pos rfl]
              omega
            refine ⟨_, kk - 1, rfl, by omega, i + 1, true, _, rfl, by omega, ⟨by simp [g2.len], fun y hy => ?_, fun y hy hcn => ?_⟩, fun h => (Bool.noConfusion h), fun _ => by omega, by omega⟩
            · rw [hg]
              by_cases hjy : j = y
              · subst hjy; rw [if_pos rfl]
                have := (g2.rg j hj).2
                rw [hCf] at hlt ⊢; omega
              · rw [if_neg hjy]; exact g2.rg y hy
            · rw [hg]
              by_cases hjy : j = y
              · subst hjy
                have := g2.z j hj hcn
                rw [hCf] at hlt; omega
              · rw [if_neg hjy]; exact g2.z y hy hcn
          · simp only [hlt, decide_false, Bool.false_eq_true, if_false, Option.bind_some]
            refine ⟨_, kk - 1, rfl, by omega, i + 1, ch, u, rfl, by omega, g2, fun h => ⟨(g3 h).1, fun z hz => ?_⟩, g4, g5⟩
            by_cases hzi : z = i
            · subst hzi
              intro j' hj'
              obtain rfl : j = j' := by rw [e] at hj'; omega
              refine ⟨by rw [hCf] at hlt; omega, fun y hy hcy => ?_⟩
              by_cases hyj : (y : Int) = (j : Int)
              · obtain rfl : y = j := by omega
                exact Int.le_refl _
              · have := P3 y hy hyj hcy
                rw [hCf] at hlt; omega
            · exact (g3 h).2 z (by omega)) p.fCosts.length FU (false, 0, l) ⟨0, false, l, rfl, by omega, hF, fun _ => ⟨rfl, fun z hz => by omega⟩, fun h => Bool.noConfusion h, Int.le_refl _⟩ (by simp only [FU]; omega)
theorem sumL_bound (hv : VP p) {w : Nat → Int} {l : List Int} (hw : ∀ j, j < p.fRoom.length → 0 ≤ w j) (hF : FI p a w l) : 0 ≤ sumL p l ∧ sumL p l ≤ 120000 := by
  have hm := hv.r
  have hp2 := hv.p2
  refine ⟨sumR_nn _ _ (fun j _ hj => by have := hw j (by omega); have := (hF.rg j (by omega)).1; omega), ?_⟩
  have := sumR_le p.fRoom.length 0 (f := gI l) (g := fun _ => 10000) (fun j _ hj => by have := (hF.rg j (by omega)).2; omega)
  have e : ∀ (k lo : Nat), sumR (fun _ => (10000 : Int)) lo k = 10000 * k := by
    intro k
    induction k with
    | zero => intro lo; rfl
    | succ k ih => intro lo; rw [sumR, ih]; omega
  rw [e] at this
  unfold sumL; omega
/-- The prices of a best assignment. -/
structure Tight (p : SProblem) (a : List Int) (x : SPrices) : Prop where
  l1 : x.fAsks.length = p.fCosts.length
  l2 : x.fLenders.length = p.fRoom.length
  r : ∀ j, j < p.fRoom.length → 0 ≤ gI x.fLenders j ∧ gI x.fLenders j ≤ 10000
  u : ∀ i, i < p.fCosts.length → gI x.fAsks i = cst (Cf p) p.fPenalty i (Af a i) + tak (gI x.fLenders) (Af a i)
  c : Cert p.fRoom.length (Cf p) p.fPenalty (gI x.fLenders) (Af a) 0 p.fCosts.length (gI p.fRoom)
theorem prices_ok (hv : VP p) (ha : a.length = p.fCosts.length) (hP : Perm p.fRoom.length (Cf p) (Af a) 0 p.fCosts.length (gI p.fRoom)) {v : Nat → Int} (hct : Cert p.fRoom.length (Cf p) p.fPenalty v (Af a) 0 p.fCosts.length (gI p.fRoom)) :
    ∃ x, m_route_Problem_prices FU p a = some x ∧ Tight p a x := by
  have hm := hv.r
  have hc := hv.c
  have hp1 := hv.p1
  have hp2 := hv.p2
  -- the certificate, no price of which is greater than the penalty
  obtain ⟨w, hwle, hw⟩ : ∃ w : Nat → Int, (∀ j, w j ≤ p.fPenalty) ∧ Cert p.fRoom.length (Cf p) p.fPenalty w (Af a) 0 p.fCosts.length (gI p.fRoom) := by
    refine ⟨fun j => min (v j) p.fPenalty, fun j => Int.min_le_right _ _, fun j hj => ?_, fun j hj hcn => ?_, fun i h1 h2 y hy => ?_⟩
    · have := hct.nn j hj
      show 0 ≤ min (v j) p.fPenalty
      omega
    · have := hct.sl j hj hcn
      show min (v j) p.fPenalty = 0
      omega
    · have h3 := hct.ti i h1 h2 y hy
      have h4 := hct.ti i h1 h2 (-1) (.inl rfl)
      have h5 := cst_bound hv (by omega) (hP.ok i h1 h2)
      have h6 := cst_bound hv (by omega) hy
      rw [cst_n, tak_n] at h4
      have e1 : tak (fun j => min (v j) p.fPenalty) (Af a i) = tak v (Af a i) := by
        rcases okX_cases (hP.ok i h1 h2) with e | ⟨j, e, hj, _⟩
        · rw [e]; rfl
        · rw [e, tak_j] at h4
          rw [e, tak_j, tak_j]
          rw [e] at h5
          show min (v j) p.fPenalty = v j
          omega
      rw [e1]
      rcases okX_cases hy with e | ⟨z, e, hz, _⟩
      · subst e; rw [cst_n, tak_n] at h3 ⊢; exact h3
      · subst e
        rw [cst_j, tak_j] at h3 ⊢
        rw [cst_j] at h6
        show _ ≤ Cf p i z + min (v z) p.fPenalty
        omega
  unfold m_route_Problem_prices
  rw [mkL_some (by decide) (by omega) (by omega), Option.bind_some, Int.toNat_natCast]
  obtain ⟨u, u1, u2, u3⟩ := prices_L1 hv ha hP
  rw [u1, Option.bind_some]
  obtain ⟨l0, l1, l2, l3⟩ := prices_L2 hv u2
  rw [l1, Option.bind_some]
  have hF0 : FI p a w l0 := by
    refine ⟨l2, fun j hj => ?_, fun j hj hcn => ?_⟩
    · rw [l3 j hj, u3 j hj]
      have := hwle j
      split
      · rename_i h
        have := hw.sl j hj h
        omega
      · omega
    · rw [l3 j hj, u3 j hj, if_pos hcn]
  obtain ⟨l, t1, t2, t3⟩ := iter_inv (σ := Bool × List Int) (τ := List Int) (f := fun s => m_route_Problem_prices_L3 FU p a s.1 s.2)
    (I := fun kk s => FI p a w s.2 ∧ ((s.1 = true ∧ (kk : Int) = sumL p s.2 + 1) ∨ (s.1 = false ∧ ∀ i, i < p.fCosts.length → Fix p a s.2 i)))
    (Q := fun l => FI p a w l ∧ ∀ i, i < p.fCosts.length → Fix p a l i) (by
      rintro kk ⟨ch, l⟩ ⟨g1, g2⟩
      dsimp only at g1 g2
      simp only [m_route_Problem_prices_L3]
      rcases g2 with ⟨rfl, g2⟩ | ⟨rfl, g2⟩
      · left
        obtain ⟨⟨ch', l'⟩, s1, s2, s3, s4⟩ := prices_L4 hv ha hP hw g1
        dsimp only at s2 s3 s4
        have b := sumL_bound hv hw.nn s2
        have b0 := sumL_bound hv hw.nn g1
        simp only [if_true]
        rw [s1, Option.bind_some]
        cases ch' with
        | true => exact ⟨_, (sumL p l' + 1).toNat, rfl, by have := s4 rfl; omega, s2, .inl ⟨rfl, by dsimp only; omega⟩⟩
        | false => exact ⟨_, 0, rfl, by omega, s2, .inr ⟨rfl, s3 rfl⟩⟩
      · right
        exact ⟨l, rfl, g1, g2⟩) (sumL p l0 + 1).toNat FU (true, l0) ⟨hF0, .inl ⟨rfl, by have := sumL_bound hv hw.nn hF0; dsimp only; omega⟩⟩ (by have := sumL_bound hv hw.nn hF0; simp only [FU]; omega)
  rw [t1, Option.bind_some]
  have hlr : ∀ j, j < p.fRoom.length → 0 ≤ gI l j ∧ gI l j ≤ 10000 := fun j hj => by
    have := t2.rg j hj
    have := hw.nn j hj
    omega
  -- every request pays the least
  have hcert : Cert p.fRoom.length (Cf p) p.fPenalty (gI l) (Af a) 0 p.fCosts.length (gI p.fRoom) := by
    refine ⟨fun j hj => (hlr j hj).1, fun j hj hcn => t2.z j hj hcn, fun i h1 h2 y hy => ?_⟩
    rcases okX_cases (hP.ok i h1 h2) with e | ⟨j, e, hj, _⟩
    · have h3 := hw.ti i h1 h2 y hy
      rw [e, cst_n, tak_n] at h3 ⊢
      rcases okX_cases hy with e' | ⟨z, e', hz, _⟩
      · subst e'; exact Int.le_refl _
      · subst e'
        rw [cst_j, tak_j] at h3 ⊢
        have := (t2.rg z hz).1
        omega
    · have h3 := t3 i (by omega) j e
      rw [e, cst_j, tak_j]
      rcases okX_cases hy with e' | ⟨z, e', hz, hcz⟩
      · subst e'; rw [cst_n, tak_n]; omega
      · subst e'; rw [cst_j, tak_j]; exact h3.2 z hz hcz
  obtain ⟨us, v1, v2, v3⟩ := iter_inv (σ := Int × List Int) (τ := List Int) (f := fun s => m_route_Problem_prices_L5 FU p l s.1 s.2)
    (I := fun kk s => ∃ (i : Nat) (us : List Int), s = ((i : Int), us) ∧ i + kk = p.fCosts.length ∧ us.length = i ∧ ∀ z, z < i → gI us z = cst (Cf p) p.fPenalty z (Af a z) + tak (gI l) (Af a z))
    (Q := fun us => us.length = p.fCosts.length ∧ ∀ z, z < p.fCosts.length → gI us z = cst (Cf p) p.fPenalty z (Af a z) + tak (gI l) (Af a z)) (by
      rintro kk s ⟨i, us, rfl, g1, g2, g3⟩
      simp only [m_route_Problem_prices_L5]
      by_cases hk : kk = 0
      · right
        exact ⟨us, by rw [decide_eq_false (by omega)]; rfl, by omega, fun z hz => g3 z (by omega)⟩
      · left
        have hi : i < p.fCosts.length := by omega
        obtain ⟨P, P1, P2, P3, P4⟩ := pays_ok hv (asks := us) t2.len hlr hi (-1)
        have hPv : P = cst (Cf p) p.fPenalty i (Af a i) + tak (gI l) (Af a i) := by
          have hti := hcert.ti i (by omega) (by omega)
          have hok := hP.ok i (by omega) (by omega)
          refine Int.le_antisymm ?_ ?_
          · rcases okX_cases hok with e | ⟨j, e, hj, hcj⟩
            · rw [e, cst_n, tak_n]; omega
            · rw [e, cst_j, tak_j]; exact P3 j hj (by omega) hcj
          · rcases P4 with h | ⟨y, hy, _, hcy, h⟩
            · have := hti (-1) (.inl rfl)
              rw [cst_n, tak_n] at this; omega
            · have := hti (y : Int) (okX_j hy hcy)
              rw [cst_j, tak_j] at this; omega
        rw [decide_eq_true (show (i : Int) < (p.fCosts.length : Int) by omega), if_pos rfl, show (⟨p.fCosts, p.fRoom, p.fPenalty⟩ : SProblem) = p from rfl, P1, Option.bind_some, app_some (by decide) (by simp; omega), Option.bind_some, wadd1 (show i < 12 by omega) (by decide)]
        refine ⟨_, kk - 1, rfl, by omega, i + 1, _, rfl, by omega, by simp [g2], fun j hj => ?_⟩
        rw [gI_snoc, g2]
        by_cases hji : j = i
        · subst hji; rw [if_pos rfl, hPv]
        · rw [if_neg hji]; exact g3 j (by omega)) p.fCosts.length FU (0, []) ⟨0, [], rfl, by omega, rfl, fun j hj => by omega⟩ (by simp only [FU]; omega)
  rw [v1, Option.bind_some]
  exact ⟨_, rfl, v2, t2.len, hlr, v3, hcert⟩
end
end Go.Proofs.Ythjinjinnklkgaa.Ab
