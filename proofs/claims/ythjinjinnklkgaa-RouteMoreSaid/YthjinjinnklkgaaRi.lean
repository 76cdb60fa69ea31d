/- What Cost, Bound, Check and Solve say. Conditions: none. -/
import Derived.Test.YthjinjinnklkgaaRh
namespace Go.Proofs.Ythjinjinnklkgaa.Ab
open Go
section
variable {p : SProblem} {a : List Int} {x : SPrices}
def PermA (p : SProblem) (a : List Int) : Prop := a.length = p.fCosts.length ∧ Perm p.fRoom.length (Cf p) (Af a) 0 p.fCosts.length (gI p.fRoom)
theorem cnt_mono {A : Nat → Int} {i n j : Nat} (h : i ≤ n) : cnt A 0 i j ≤ cnt A 0 n j := by
  have := sumR_split (fun z => if A z = (j : Int) then (1 : Int) else 0) i (n - i) 0
  rw [Nat.zero_add, show i + (n - i) = n by omega] at this
  have h2 := cnt_nn (A := A) (lo := i) (k := n - i) (j := j)
  unfold cnt at *
  omega
theorem cnt_le {A : Nat → Int} {lo k j : Nat} : cnt A lo k j ≤ k := by
  have := sumR_le k lo (f := fun z => if A z = (j : Int) then 1 else 0) (g := fun _ => 1) (fun z _ _ => by split <;> omega)
  have e : ∀ (k lo : Nat), sumR (fun _ => 1) lo k = k := by
    intro k
    induction k with
    | zero => intro lo; rfl
    | succ k ih => intro lo; rw [sumR, ih]; omega
  rw [e] at this
  exact this
theorem cost_loop (hv : VP p) (ha : a.length = p.fCosts.length) :
    ∃ t : (Int × Bool) ⊕ (Int × List Int), iter FU (fun s => m_route_Problem_cost_L1 FU p a s.1 s.2.1 s.2.2) ((0 : Int), (0 : Int), List.replicate p.fRoom.length (0 : Int)) = some t ∧
      Sum.elim (fun u => u = (0, false) ∧ ¬ Perm p.fRoom.length (Cf p) (Af a) 0 p.fCosts.length (gI p.fRoom)) (fun u => Perm p.fRoom.length (Cf p) (Af a) 0 p.fCosts.length (gI p.fRoom) ∧ u.1 = costA (Cf p) p.fPenalty (Af a) 0 p.fCosts.length) t := by
  have hc := hv.c
  have hm := hv.r
  have hp1 := hv.p1
  have hp2 := hv.p2
  refine iter_inv (σ := Int × Int × List Int) (I := fun kk s => ∃ (i : Nat) (u : List Int), s = (costA (Cf p) p.fPenalty (Af a) 0 i, (i : Int), u) ∧ i + kk = p.fCosts.length ∧ u.length = p.fRoom.length ∧ (∀ j, j < p.fRoom.length → gI u j = cnt (Af a) 0 i j) ∧ Perm p.fRoom.length (Cf p) (Af a) 0 i (gI p.fRoom))
    (Q := fun t => Sum.elim (fun u => u = ((0 : Int), false) ∧ ¬ Perm p.fRoom.length (Cf p) (Af a) 0 p.fCosts.length (gI p.fRoom)) (fun u : Int × List Int => Perm p.fRoom.length (Cf p) (Af a) 0 p.fCosts.length (gI p.fRoom) ∧ u.1 = costA (Cf p) p.fPenalty (Af a) 0 p.fCosts.length) t) (by
      rintro kk s ⟨i, u, rfl, g1, g2, g3, g4⟩
      simp only [m_route_Problem_cost_L1]
      by_cases hk : kk = 0
      · right
        have e : i = p.fCosts.length := by omega
        subst e
        exact ⟨.inr _, by rw [decide_eq_false (by omega)]; rfl, g4, rfl⟩
      · have hi : i < a.length := by omega
        have hin : i < p.fCosts.length := by omega
        have hcs : ∀ j : Nat, cnt (Af a) 0 (i + 1) j = cnt (Af a) 0 i j + (if Af a i = (j : Int) then 1 else 0) := fun j => by
          unfold cnt; rw [sumR_snoc, Nat.zero_add]
        have hcc : costA (Cf p) p.fPenalty (Af a) 0 (i + 1) = costA (Cf p) p.fPenalty (Af a) 0 i + cst (Cf p) p.fPenalty i (Af a i) := by
          unfold costA; rw [sumR_snoc, Nat.zero_add]
        have hb := costA_bound hv (A := Af a) i (show 0 + i ≤ p.fCosts.length by omega) g4.ok
        have hext : okX p.fRoom.length (Cf p) i (Af a i) → (∀ j, j < p.fRoom.length → cnt (Af a) 0 (i + 1) j ≤ gI p.fRoom j) → Perm p.fRoom.length (Cf p) (Af a) 0 (i + 1) (gI p.fRoom) := fun h1 h2 => ⟨fun z hz hz2 => by
          by_cases hzi : z = i
          · subst hzi; exact h1
          · exact g4.ok z hz (by omega), h2⟩
        rw [decide_eq_true (show (i : Int) < (a.length : Int) by omega), if_pos rfl, ixA hi, Option.bind_some, wadd1 (show i < 12 by omega) (by decide)]
        by_cases hn : Af a i = -1
        · left
          rw [hn]
          simp only [decide_true, if_true, Option.bind_some]
          rw [w64 (by omega) (by omega)]
          refine ⟨_, kk - 1, rfl, by omega, i + 1, u, by rw [hcc, hn, cst_n], by omega, g2, fun j hj => by rw [hcs, hn, if_neg (by omega), g3 j hj]; omega, hext (.inl hn) (fun j hj => by rw [hcs, hn, if_neg (by omega)]; have := g4.rm j hj; omega)⟩
        · simp only [hn, decide_false, Bool.false_eq_true, if_false]
          have hin2 : m_route_in FU (Af a i) 0 (IntKind.i64.wrap ((p.fRoom.length : Int) - 1)) = some (inZ (Af a i) 0 ((p.fRoom.length : Int) - 1)) := by
            rw [w64 (by omega) (by omega)]; rfl
          rw [hin2, Option.bind_some]
          cases hz : inZ (Af a i) 0 ((p.fRoom.length : Int) - 1) with
          | false =>
            right
            refine ⟨.inl (0, false), by simp, rfl, fun hP => ?_⟩
            rcases okX_cases (hP.ok i (by omega) (by omega)) with e | ⟨j, e, hj, _⟩
            · exact hn e
            · rw [e] at hz
              have : inZ (j : Int) 0 ((p.fRoom.length : Int) - 1) = true := inZ_t.2 (by omega)
              rw [hz] at this; cases this
          | true =>
            have hz := inZ_t.1 hz
            obtain ⟨j, hj⟩ := Int.eq_ofNat_of_zero_le hz.1
            have hjm : j < p.fRoom.length := by omega
            have hco : -1 ≤ gI (p.fCosts.getD i []) j ∧ gI (p.fCosts.getD i []) j ≤ 10000 := hv.co i j hin hjm
            have hCf : gI (p.fCosts.getD i []) j = Cf p i j := rfl
            rw [hj]
            simp only [Bool.not_true, Bool.not_false, if_true, Bool.false_or]
            rw [ixC hin, Option.bind_some, ixG (by rw [hv.row i hin]; exact hjm)]
            simp only [Option.bind_some]
            by_cases hcj : gI (p.fCosts.getD i []) j = -1
            · right
              refine ⟨.inl (0, false), by simp [-List.getD_eq_getElem?_getD, hcj], rfl, fun hP => ?_⟩
              rcases okX_cases (hP.ok i (by omega) (by omega)) with e | ⟨y, e, _, hcy⟩
              · exact hn e
              · obtain rfl : j = y := by omega
                exact hcy (hCf ▸ hcj)
            · simp only [hcj, decide_false, Bool.not_false, if_true, Bool.false_or]
              rw [ixG (show j < u.length by omega), ixG hjm]
              simp only [Option.bind_some]
              have huj := g3 j hjm
              have hrm := g4.rm j hjm
              by_cases hful : gI u j = gI p.fRoom j
              · right
                refine ⟨.inl (0, false), by rw [decide_eq_true hful]; rfl, rfl, fun hP => ?_⟩
                have h1 := hP.rm j hjm
                have h2 := cnt_mono (A := Af a) (j := j) (show i + 1 ≤ p.fCosts.length by omega)
                rw [hcs, if_pos hj] at h2
                omega
              · left
                rw [decide_eq_false hful]
                simp only [Bool.false_eq_true, if_false]
                have hle := cnt_le (A := Af a) (lo := 0) (k := i) (j := j)
                have hge := cnt_nn (A := Af a) (lo := 0) (k := i) (j := j)
                rw [w64 (x := gI u j + 1) (by omega) (by omega), setG (by omega)]
                simp only [Option.bind_some]
                rw [ixG (show j < (p.fCosts.getD i []).length by rw [hv.row i hin]; exact hjm)]
                simp only [Option.bind_some]
                rw [w64 (by omega) (by omega)]
                refine ⟨_, kk - 1, rfl, by omega, i + 1, _, by rw [hcc, hj, cst_j], by omega, by simp [g2], fun y hy => ?_, hext (by rw [hj]; exact okX_j hjm (hCf ▸ hcj)) (fun y hy => ?_)⟩
                · rw [gI_set (by omega), hcs, hj]
                  by_cases hjy : j = y
                  · subst hjy; rw [if_pos rfl, if_pos rfl, huj]
                  · rw [if_neg hjy, if_neg (by omega), g3 y hy]; omega
                · have := g4.rm y hy
                  rw [hcs, hj]
                  by_cases hjy : j = y
                  · subst hjy; rw [if_pos rfl]; omega
                  · rw [if_neg (by omega)]; omega) p.fCosts.length FU (0, 0, List.replicate p.fRoom.length 0) ⟨0, _, rfl, by omega, by simp, fun j hj => by rw [gI_rep hj]; rfl, ⟨fun z _ hz => by omega, fun j hj => by simpa [cnt, sumR] using (hv.rm j hj).1⟩⟩ (by simp only [FU]; omega)
theorem cost_spec (hs : Sane p) (hvb : validB p = true) (a : List Int) : ∃ N e, m_route_Cost FU p a = some (N, e) ∧ (e = 0 → PermA p a ∧ N = costA (Cf p) p.fPenalty (Af a) 0 p.fCosts.length) ∧ (PermA p a → e = 0) := by
  have hv := vp_of hvb
  unfold m_route_Cost
  rw [show (⟨p.fCosts, p.fRoom, p.fPenalty⟩ : SProblem) = p from rfl, routeValid hs (by decide), hvb, Option.bind_some]
  simp only [Bool.not_true, Bool.false_eq_true, if_false]
  unfold m_route_Problem_cost
  by_cases ha : a.length = p.fCosts.length
  · rw [decide_eq_true (show (a.length : Int) = (p.fCosts.length : Int) by omega)]
    simp only [Bool.not_true, Bool.false_eq_true, if_false]
    rw [mkL_some (by decide) (by omega) (by have := hv.r; omega), Option.bind_some, Int.toNat_natCast]
    obtain ⟨t, t1, t2⟩ := cost_loop hv ha
    rw [t1, Option.bind_some]
    cases t with
    | inl u =>
      obtain ⟨rfl, h⟩ := t2
      exact ⟨0, 11, rfl, fun h => absurd h (by decide), fun hP => absurd hP.2 h⟩
    | inr u =>
      obtain ⟨h, hu⟩ := t2
      exact ⟨u.1, 0, rfl, fun _ => ⟨⟨ha, h⟩, hu⟩, fun _ => rfl⟩
  · rw [decide_eq_false (show ¬ (a.length : Int) = (p.fCosts.length : Int) by omega)]
    exact ⟨0, 11, rfl, fun h => absurd h (by decide), fun hP => absurd hP.1 ha⟩
/-- Prices that prove a bound. -/
structure Feas (p : SProblem) (x : SPrices) : Prop where
  l1 : x.fAsks.length = p.fCosts.length
  l2 : x.fLenders.length = p.fRoom.length
  r1 : ∀ i, i < p.fCosts.length → -1000000 ≤ gI x.fAsks i ∧ gI x.fAsks i ≤ 1000000
  r2 : ∀ j, j < p.fRoom.length → 0 ≤ gI x.fLenders j ∧ gI x.fLenders j ≤ 1000000
  pe : ∀ i, i < p.fCosts.length → gI x.fAsks i ≤ p.fPenalty
  co : ∀ i j, i < p.fCosts.length → j < p.fRoom.length → Cf p i j ≠ -1 → gI x.fAsks i ≤ Cf p i j + gI x.fLenders j
def boundA (p : SProblem) (x : SPrices) : Int := sumR (gI x.fAsks) 0 p.fCosts.length - sumR (fun j => gI p.fRoom j * gI x.fLenders j) 0 p.fRoom.length
theorem bound_spec (hs : Sane p) (hvb : validB p = true) (hx1 : x.fAsks.length ≤ ML) (hx2 : x.fLenders.length ≤ ML) :
    ∃ M f, m_route_Bound FU p x = some (M, f) ∧ (f = 0 → Feas p x ∧ M = boundA p x) ∧ (Feas p x → f = 0) := by
  have hv := vp_of hvb
  have hc := hv.c
  have hm := hv.r
  have hp1 := hv.p1
  have hp2 := hv.p2
  unfold m_route_Bound
  rw [show (⟨p.fCosts, p.fRoom, p.fPenalty⟩ : SProblem) = p from rfl, routeValid hs (by decide), hvb, Option.bind_some]
  simp only [Bool.not_true, Bool.false_eq_true, if_false]
  have c1 : m_slices_ContainsFunc_int_intx FU x.fAsks (fun y1 => m_route_Bound_1 FU y1) = some (x.fAsks.any fun c => !inZ c (-1000000) 1000000) :=
    contains_loop FU x.fAsks _ _ (fun y _ => rfl) hx1 (Nat.lt_of_le_of_lt hx1 (by decide))
  have c2 : m_slices_ContainsFunc_int_intx FU x.fLenders (fun y1 => m_route_Bound_1 FU y1) = some (x.fLenders.any fun c => !inZ c (-1000000) 1000000) :=
    contains_loop FU x.fLenders _ _ (fun y _ => rfl) hx2 (Nat.lt_of_le_of_lt hx2 (by decide))
  rw [c1, c2]
  have getm : ∀ (l : List Int) (i : Nat), i < l.length → gI l i ∈ l := fun l i h => by simp [h]
  by_cases hl : x.fAsks.length = p.fCosts.length ∧ x.fLenders.length = p.fRoom.length
  · rw [decide_eq_true (show (x.fAsks.length : Int) = (p.fCosts.length : Int) by omega), decide_eq_true (show (x.fLenders.length : Int) = (p.fRoom.length : Int) by omega)]
    simp only [Bool.not_true, Bool.or_self, Bool.not_false, if_true, Option.bind_some, Bool.false_or]
    cases h1 : x.fAsks.any fun c => !inZ c (-1000000) 1000000 with
    | true =>
      refine ⟨0, 17, by simp, fun h => absurd h (by decide), fun hF => ?_⟩
      obtain ⟨c, hc1, hc2⟩ := List.any_eq_true.1 h1
      obtain ⟨i, hi, rfl⟩ := List.getElem_of_mem hc1
      have := hF.r1 i (by omega)
      have e : gI x.fAsks i = x.fAsks[i] := by simp [hi]
      rw [e] at this
      rw [inZ_t.2 this] at hc2; cases hc2
    | false =>
      simp only [Bool.not_false, if_true, Option.bind_some]
      cases h2 : x.fLenders.any fun c => !inZ c (-1000000) 1000000 with
      | true =>
        refine ⟨0, 17, by simp, fun h => absurd h (by decide), fun hF => ?_⟩
        obtain ⟨c, hc1, hc2⟩ := List.any_eq_true.1 h2
        obtain ⟨i, hi, rfl⟩ := List.getElem_of_mem hc1
        have := hF.r2 i (by omega)
        have e : gI x.fLenders i = x.fLenders[i] := by simp [hi]
        rw [e] at this
        rw [inZ_t.2 (by omega)] at hc2; cases hc2
      | false =>
        simp only [Bool.or_self, Bool.false_eq_true, if_false]
        have q1 : ∀ i, i < p.fCosts.length → -1000000 ≤ gI x.fAsks i ∧ gI x.fAsks i ≤ 1000000 := fun i hi => by
          have := List.any_eq_false.1 h1 _ (getm x.fAsks i (by omega))
          exact inZ_t.1 (by simpa [-List.getD_eq_getElem?_getD] using this)
        have q2 : ∀ j, j < p.fRoom.length → -1000000 ≤ gI x.fLenders j ∧ gI x.fLenders j ≤ 1000000 := fun j hj => by
          have := List.any_eq_false.1 h2 _ (getm x.fLenders j (by omega))
          exact inZ_t.1 (by simpa [-List.getD_eq_getElem?_getD] using this)
        have rb : ∀ j, j < p.fRoom.length → 0 ≤ gI p.fRoom j ∧ gI p.fRoom j ≤ 20 := fun j hj => hv.rm j hj
        -- the lenders
        obtain ⟨t, t1, t2⟩ := iter_inv (σ := Int × Int) (τ := (Int × Int) ⊕ Int) (f := fun s => m_route_Bound_L1 FU p x s.1 s.2)
          (I := fun kk s => ∃ i : Nat, s = (-sumR (fun j => gI p.fRoom j * gI x.fLenders j) 0 i, (i : Int)) ∧ i + kk = p.fRoom.length ∧ (∀ j, j < i → 0 ≤ gI x.fLenders j) ∧ 0 ≤ sumR (fun j => gI p.fRoom j * gI x.fLenders j) 0 i ∧ sumR (fun j => gI p.fRoom j * gI x.fLenders j) 0 i ≤ 20000000 * i)
          (Q := fun t => Sum.elim (fun u => u = ((0 : Int), (17 : Int)) ∧ ¬ ∀ j, j < p.fRoom.length → 0 ≤ gI x.fLenders j) (fun u => u = -sumR (fun j => gI p.fRoom j * gI x.fLenders j) 0 p.fRoom.length ∧ (∀ j, j < p.fRoom.length → 0 ≤ gI x.fLenders j) ∧ -240000000 ≤ u ∧ u ≤ 0) t) (by
            rintro kk s ⟨i, rfl, g1, g2, g3, g4⟩
            simp only [m_route_Bound_L1]
            by_cases hk : kk = 0
            · right
              have e : i = p.fRoom.length := by omega
              subst e
              exact ⟨.inr _, by rw [decide_eq_false (by omega)]; rfl, rfl, g2, by omega, by omega⟩
            · have hi : i < p.fRoom.length := by omega
              rw [decide_eq_true (show (i : Int) < (x.fLenders.length : Int) by omega), if_pos rfl, ixG (show i < x.fLenders.length by omega), Option.bind_some]
              by_cases hneg : gI x.fLenders i < 0
              · right
                exact ⟨.inl (0, 17), by rw [decide_eq_true hneg]; rfl, rfl, fun h => by have := h i hi; omega⟩
              · left
                have hq := q2 i hi
                have hr := rb i hi
                have hmul : 0 ≤ gI p.fRoom i * gI x.fLenders i ∧ gI p.fRoom i * gI x.fLenders i ≤ 20 * 1000000 := ⟨Int.mul_nonneg hr.1 (by omega), Int.mul_le_mul hr.2 hq.2 (by omega) (by decide)⟩
                have hsn : sumR (fun j => gI p.fRoom j * gI x.fLenders j) 0 (i + 1) = sumR (fun j => gI p.fRoom j * gI x.fLenders j) 0 i + gI p.fRoom i * gI x.fLenders i := by rw [sumR_snoc, Nat.zero_add]
                rw [decide_eq_false hneg]
                simp only [Bool.false_eq_true, if_false]
                rw [ixG hi, Option.bind_some, w64 (x := gI p.fRoom i * gI x.fLenders i) (by omega) (by omega), w64 (by omega) (by omega), wadd1 (show i < 12 by omega) (by decide)]
                exact ⟨_, kk - 1, rfl, by omega, i + 1, by rw [hsn]; congr 1; omega, by omega, fun j hj => by
                  by_cases hji : j = i
                  · subst hji; omega
                  · exact g2 j (by omega), by rw [hsn]; omega, by rw [hsn]; omega⟩) p.fRoom.length FU (0, 0) ⟨0, rfl, by omega, fun j hj => by omega, by simp [sumR], by simp [sumR]⟩ (by simp only [FU]; omega)
        rw [t1, Option.bind_some]
        cases t with
        | inl u =>
          obtain ⟨rfl, hno⟩ := t2
          exact ⟨0, 17, rfl, fun h => absurd h (by decide), fun hF => absurd (fun j hj => (hF.r2 j hj).1) hno⟩
        | inr u =>
          obtain ⟨hu, hnn, ub1, ub2⟩ := t2
          -- the requests
          obtain ⟨t, s1, s2⟩ := iter_inv (σ := Int × Int) (τ := (Int × Int) ⊕ Int) (f := fun s => m_route_Bound_L2 FU p x s.1 s.2)
            (I := fun kk s => ∃ i : Nat, s = (u + sumR (gI x.fAsks) 0 i, (i : Int)) ∧ i + kk = p.fCosts.length ∧ (∀ z, z < i → gI x.fAsks z ≤ p.fPenalty ∧ ∀ j, j < p.fRoom.length → Cf p z j ≠ -1 → gI x.fAsks z ≤ Cf p z j + gI x.fLenders j) ∧ -1000000 * (i : Int) ≤ sumR (gI x.fAsks) 0 i ∧ sumR (gI x.fAsks) 0 i ≤ 1000000 * i)
            (Q := fun t => Sum.elim (fun w => w = ((0 : Int), (17 : Int)) ∧ ¬ ∀ z, z < p.fCosts.length → gI x.fAsks z ≤ p.fPenalty ∧ ∀ j, j < p.fRoom.length → Cf p z j ≠ -1 → gI x.fAsks z ≤ Cf p z j + gI x.fLenders j)
              (fun w => w = u + sumR (gI x.fAsks) 0 p.fCosts.length ∧ ∀ z, z < p.fCosts.length → gI x.fAsks z ≤ p.fPenalty ∧ ∀ j, j < p.fRoom.length → Cf p z j ≠ -1 → gI x.fAsks z ≤ Cf p z j + gI x.fLenders j) t) (by
              rintro kk s ⟨i, rfl, g1, g2, g3, g4⟩
              simp only [m_route_Bound_L2]
              by_cases hk : kk = 0
              · right
                have e : i = p.fCosts.length := by omega
                subst e
                exact ⟨.inr _, by rw [decide_eq_false (by omega)]; rfl, rfl, g2⟩
              · have hi : i < p.fCosts.length := by omega
                have hq := q1 i hi
                have hrow := hv.row i hi
                have hsn : sumR (gI x.fAsks) 0 (i + 1) = sumR (gI x.fAsks) 0 i + gI x.fAsks i := by rw [sumR_snoc, Nat.zero_add]
                rw [decide_eq_true (show (i : Int) < (x.fAsks.length : Int) by omega), if_pos rfl, ixG (show i < x.fAsks.length by omega), Option.bind_some]
                by_cases hpe : p.fPenalty < gI x.fAsks i
                · right
                  exact ⟨.inl (0, 17), by rw [decide_eq_true hpe]; rfl, rfl, fun h => by have := (h i hi).1; omega⟩
                · rw [decide_eq_false hpe]
                  simp only [Bool.false_eq_true, if_false]
                  rw [ixC hi, Option.bind_some]
                  rcases iter_scan (f := fun s => m_route_Bound_L3 FU x (gI x.fAsks i) (p.fCosts.getD i []) s) p.fRoom.length (fun j => !decide (Cf p i j = -1) && decide (Cf p i j + gI x.fLenders j < gI x.fAsks i)) (fun _ => .inl (0, 17)) (.inr ()) p.fRoom.length 0 FU 0 (by omega) (fun j hj => by
                    have hco : -1 ≤ gI (p.fCosts.getD i []) j ∧ gI (p.fCosts.getD i []) j ≤ 10000 := hv.co i j hi hj
                    have hqj := q2 j hj
                    simp only [m_route_Bound_L3]
                    rw [decide_eq_true (show (j : Int) < ((p.fCosts.getD i []).length : Int) by omega), if_pos rfl, ixG (show j < (p.fCosts.getD i []).length by omega), Option.bind_some, wadd1 (show j < 12 by omega) (by decide)]
                    by_cases hcj : gI (p.fCosts.getD i []) j = -1
                    · simp [-List.getD_eq_getElem?_getD, hcj]
                    · rw [decide_eq_false hcj]
                      simp only [Bool.not_false, if_true, Bool.true_and]
                      rw [ixG (show j < x.fLenders.length by omega), Option.bind_some, w64 (by omega) (by omega)]
                      split <;> rfl) (by
                      simp only [m_route_Bound_L3]
                      rw [decide_eq_false (by omega)]; rfl) (by simp only [FU]; omega) rfl with ⟨j, _, j2, j3, _, j5⟩ | ⟨j1, j2⟩
                  · right
                    rw [j5]
                    refine ⟨.inl (0, 17), rfl, rfl, fun h => ?_⟩
                    rw [Bool.and_eq_true, Bool.not_eq_true', decide_eq_false_iff_not, decide_eq_true_eq] at j3
                    have := (h i hi).2 j j2 j3.1
                    omega
                  · left
                    rw [j2, Option.bind_some]
                    dsimp only
                    rw [w64 (by omega) (by omega), wadd1 (show i < 12 by omega) (by decide)]
                    refine ⟨_, kk - 1, rfl, by omega, i + 1, by rw [hsn]; congr 1; omega, by omega, fun z hz => ?_, by rw [hsn]; omega, by rw [hsn]; omega⟩
                    by_cases hzi : z = i
                    · subst hzi
                      refine ⟨by omega, fun j hj hcj => ?_⟩
                      have := j1 j (by omega) hj
                      rw [decide_eq_false hcj] at this
                      simp only [Bool.not_false, Bool.true_and, decide_eq_false_iff_not] at this
                      omega
                    · exact g2 z (by omega)) p.fCosts.length FU (u, 0) ⟨0, by simp [sumR], by omega, fun z hz => by omega, by simp [sumR], by simp [sumR]⟩ (by simp only [FU]; omega)
          dsimp only
          rw [s1, Option.bind_some]
          cases t with
          | inl w =>
            obtain ⟨rfl, hno⟩ := s2
            exact ⟨0, 17, rfl, fun h => absurd h (by decide), fun hF => absurd (fun z hz => ⟨hF.pe z hz, fun j hj hcj => hF.co z j hz hj hcj⟩) hno⟩
          | inr w =>
            obtain ⟨hw, hall⟩ := s2
            exact ⟨w, 0, rfl, fun _ => ⟨⟨hl.1, hl.2, q1, fun j hj => ⟨hnn j hj, (q2 j hj).2⟩, fun i hi => (hall i hi).1, fun i j hi hj hcj => (hall i hi).2 j hj hcj⟩, by rw [hw, hu]; unfold boundA; omega⟩, fun _ => rfl⟩
  · refine ⟨0, 17, ?_, fun h => absurd h (by decide), fun hF => absurd ⟨hF.l1, hF.l2⟩ hl⟩
    by_cases e1 : x.fAsks.length = p.fCosts.length
    · rw [decide_eq_true (show (x.fAsks.length : Int) = (p.fCosts.length : Int) by omega), decide_eq_false (show ¬ (x.fLenders.length : Int) = (p.fRoom.length : Int) by omega)]
      rfl
    · rw [decide_eq_false (show ¬ (x.fAsks.length : Int) = (p.fCosts.length : Int) by omega)]
      rfl
theorem Tight.feas (hv : VP p) (ha : PermA p a) (h : Tight p a x) : Feas p x ∧ boundA p x = costA (Cf p) p.fPenalty (Af a) 0 p.fCosts.length := by
  have hle : ∀ i, i < p.fCosts.length → ∀ y, okX p.fRoom.length (Cf p) i y → gI x.fAsks i ≤ cst (Cf p) p.fPenalty i y + tak (gI x.fLenders) y := fun i hi y hy => by
    rw [h.u i hi]; exact h.c.ti i (by omega) (by omega) y hy
  have hp1 := hv.p1
  have hp2 := hv.p2
  refine ⟨⟨h.l1, h.l2, fun i hi => ?_, fun j hj => by have := h.r j hj; omega, fun i hi => ?_, fun i j hi hj hcj => ?_⟩, ?_⟩
  · have hb := cst_bound hv hi (ha.2.ok i (by omega) (by omega))
    have ht : 0 ≤ tak (gI x.fLenders) (Af a i) ∧ tak (gI x.fLenders) (Af a i) ≤ 10000 := by
      rcases okX_cases (ha.2.ok i (by omega) (by omega)) with e | ⟨j, e, hj, _⟩
      · rw [e, tak_n]; omega
      · rw [e, tak_j]; exact h.r j hj
    rw [h.u i hi]; omega
  · have := hle i hi (-1) (.inl rfl)
    rw [cst_n, tak_n] at this; omega
  · have := hle i hi (j : Int) (okX_j hj hcj)
    rw [cst_j, tak_j] at this; exact this
  · have e1 := room_sum ha.2 h.c
    have e2 : sumR (gI x.fAsks) 0 p.fCosts.length = sumR (fun i => cst (Cf p) p.fPenalty i (Af a i) + tak (gI x.fLenders) (Af a i)) 0 p.fCosts.length := sumR_congr _ _ (fun i _ hi => h.u i (by omega))
    have s := sumR_add (fun i => cst (Cf p) p.fPenalty i (Af a i)) (fun i => tak (gI x.fLenders) (Af a i)) p.fCosts.length 0
    unfold boundA costA
    omega
theorem solve_ok (hs : Sane p) (hvb : validB p = true) : ∃ a x, m_route_Solve FU p = some (a, x, 0) ∧ Best p a ∧ Tight p a x := by
  have hv := vp_of hvb
  have hm := hv.r
  unfold m_route_Solve
  rw [show (⟨p.fCosts, p.fRoom, p.fPenalty⟩ : SProblem) = p from rfl, routeValid hs (by decide), hvb, Option.bind_some]
  simp only [Bool.not_true, Bool.false_eq_true, if_false]
  have hcl : m_slices_Clone_int_int FU p.fRoom = some p.fRoom := by
    unfold m_slices_Clone_int_int
    rw [app_some (by decide) (by simp; omega)]; rfl
  obtain ⟨N0, n1, n2⟩ := least_opt (room := p.fRoom) (lo := 0) hv rfl (fun j hj => (hv.rm j hj).1) (Nat.zero_le _)
  obtain ⟨⟨a, R⟩, t1, t2⟩ := solve_L1 hv rfl n2
  dsimp only at t2
  obtain ⟨v, hct⟩ := t2.ct
  obtain ⟨x, x1, x2⟩ := prices_ok hv t2.al t2.pm hct
  rw [hcl, Option.bind_some, show ((0 : Int)) = ((0 : Nat) : Int) from rfl, n1, Option.bind_some]
  rw [show (((0 : Nat) : Int)) = (0 : Int) from rfl, t1, Option.bind_some]
  dsimp only
  rw [x1, Option.bind_some]
  exact ⟨a, x, rfl, t2, x2⟩
/-- What Solve yields is accepted. -/
theorem check_ok (hs : Sane p) (hvb : validB p = true) (hB : Best p a) (hT : Tight p a x) : m_route_Check FU p a x = some 0 ∧ m_route_Cost FU p a = some (costA (Cf p) p.fPenalty (Af a) 0 p.fCosts.length, 0) := by
  have hv := vp_of hvb
  have hc := hv.c
  have hm := hv.r
  have hPA : PermA p a := ⟨hB.al, hB.pm⟩
  obtain ⟨N, e, c1, c2, c3⟩ := cost_spec hs hvb a
  obtain rfl : e = 0 := c3 hPA
  have hN := (c2 rfl).2
  obtain ⟨M, f, b1, b2, b3⟩ := bound_spec (x := x) hs hvb (by rw [hT.l1]; simp only [ML]; omega) (by rw [hT.l2]; simp only [ML]; omega)
  have hF := hT.feas hv hPA
  obtain rfl : f = 0 := b3 hF.1
  have hM := (b2 rfl).2
  refine ⟨?_, by rw [c1, hN]⟩
  unfold m_route_Check
  rw [show (⟨p.fCosts, p.fRoom, p.fPenalty⟩ : SProblem) = p from rfl, show (⟨x.fAsks, x.fLenders⟩ : SPrices) = x from rfl, c1, Option.bind_some]
  simp only [decide_true, Bool.not_true, Bool.false_eq_true, if_false]
  rw [b1, Option.bind_some]
  have : M = N := by rw [hM, hN, hF.2]
  simp [this]
end
end Go.Proofs.Ythjinjinnklkgaa.Ab
