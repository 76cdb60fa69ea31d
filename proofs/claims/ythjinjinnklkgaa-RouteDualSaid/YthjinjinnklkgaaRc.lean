/- The search for a shortest way: what its loops compute. Conditions: none. -/
import Derived.Test.YthjinjinnklkgaaRb
import Derived.Test.YthjinjinnklkgaaPb
namespace Go.Proofs.Ythjinjinnklkgaa.Ab
open Go

abbrev FAR : Int := 1099511627776
abbrev Cf (p : SProblem) (i j : Nat) : Int := (p.fCosts.getD i []).getD j 0
abbrev Af (a : List Int) (i : Nat) : Int := a.getD i (-1)
abbrev gI (l : List Int) (i : Nat) : Int := l.getD i 0
theorem ixA {l : List Int} {i : Nat} (h : i < l.length) : ix l (i : Int) = some (Af l i) := ix_get (-1) h
theorem ixG {l : List Int} {i : Nat} (h : i < l.length) : ix l (i : Int) = some (gI l i) := ix_get 0 h
theorem ixC {p : SProblem} {i : Nat} (h : i < p.fCosts.length) : ix p.fCosts (i : Int) = some (p.fCosts.getD i []) := ix_get [] h
theorem Af_gI {l : List Int} {i : Nat} (h : i < l.length) : Af l i = gI l i := by simp [h]
theorem setG {l : List Int} {i : Nat} {x : Int} (h : i < l.length) : setI l (i : Int) x = some (l.set i x) := by rw [setI_some (by omega) (by omega)]; rfl
theorem gI_set {l : List Int} {i j : Nat} {x : Int} (h : i < l.length) : gI (l.set i x) j = if i = j then x else gI l j := getD_set l i j x 0 h
theorem Af_set {l : List Int} {i j : Nat} {x : Int} (h : i < l.length) : Af (l.set i x) j = if i = j then x else Af l j := getD_set l i j x (-1) h
theorem gI_rep {m j : Nat} {x : Int} (h : j < m) : gI (List.replicate m x) j = x := by simp [h]
theorem fu13 : 1000 < FU := by decide

theorem asg {q : SProblem} {room a : List Int} {lo : Nat} (ha : a.length ≤ 12) (hlo : lo ≤ a.length) (j : Nat) :
    ∃ l, m_route_search_assigned FU ⟨q, room, a, (lo : Int)⟩ (j : Int) = some l ∧ (∀ x ∈ l, ∃ i : Nat, x = i ∧ lo ≤ i ∧ i < a.length ∧ Af a i = j) ∧ (∀ i : Nat, lo ≤ i → i < a.length → Af a i = j → (i : Int) ∈ l) ∧ (l.length : Int) = cnt (Af a) lo (a.length - lo) j := by
  unfold m_route_search_assigned
  obtain ⟨t, h1, h2⟩ := iter_inv (σ := List Int × Int) (f := fun s => m_route_search_assigned_L1 FU ⟨q, room, a, (lo : Int)⟩ (j : Int) s.1 s.2)
    (I := fun k s => ∃ i : Nat, s.2 = i ∧ i + k = a.length ∧ lo ≤ i ∧ s.1.length ≤ i ∧ (∀ x ∈ s.1, ∃ i' : Nat, x = i' ∧ lo ≤ i' ∧ i' < a.length ∧ Af a i' = j) ∧ (∀ i' : Nat, lo ≤ i' → i' < i → Af a i' = j → (i' : Int) ∈ s.1) ∧ (s.1.length : Int) = cnt (Af a) lo (i - lo) j)
    (Q := fun l => (∀ x ∈ l, ∃ i : Nat, x = i ∧ lo ≤ i ∧ i < a.length ∧ Af a i = j) ∧ (∀ i : Nat, lo ≤ i → i < a.length → Af a i = j → (i : Int) ∈ l) ∧ (l.length : Int) = cnt (Af a) lo (a.length - lo) j) (by
      rintro k ⟨l, z⟩ ⟨i, h1, h2, h3, h4, h5, h6, h7⟩
      dsimp only at h1 h4 h5 h6 h7
      subst h1
      simp only [m_route_search_assigned_L1]
      by_cases hk : k = 0
      · right
        have e : i = a.length := by omega
        subst e
        exact ⟨l, by simp, h5, h6, h7⟩
      · left
        have hi : i < a.length := by omega
        simp only [show (i : Int) < a.length by omega, decide_true, if_true]
        rw [ixA hi]
        simp only [Option.bind_some]
        have hc : cnt (Af a) lo (i + 1 - lo) j = cnt (Af a) lo (i - lo) j + (if Af a i = (j : Int) then 1 else 0) := by
          unfold cnt
          rw [show i + 1 - lo = i - lo + 1 by omega, sumR_snoc, show lo + (i - lo) = i by omega]
        by_cases hj : Af a i = (j : Int)
        · simp only [hj, decide_true, if_true]
          rw [app_some (by decide) (by simp; omega)]
          simp only [Option.bind_some]
          rw [wadd1 (show i < 12 by omega) (by decide)]
          refine ⟨_, k - 1, rfl, by omega, i + 1, rfl, by omega, by omega, by simp; omega, fun x hx => ?_, fun z hz hz2 hz3 => ?_, ?_⟩
          · rcases List.mem_append.1 hx with hx | hx
            · exact h5 x hx
            · exact ⟨i, by simpa using hx, h3, hi, hj⟩
          · by_cases hzi : z = i
            · subst hzi; exact List.mem_append.2 (.inr (by simp))
            · exact List.mem_append.2 (.inl (h6 z hz (by omega) hz3))
          · dsimp only
            rw [hc, if_pos hj, List.length_append, List.length_singleton]; omega
        · simp only [hj, decide_false, Bool.false_eq_true, if_false, Option.bind_some]
          rw [wadd1 (show i < 12 by omega) (by decide)]
          refine ⟨_, k - 1, rfl, by omega, i + 1, rfl, by omega, by omega, by dsimp only; omega, h5, fun z hz hz2 hz3 => ?_, ?_⟩
          · by_cases hzi : z = i
            · subst hzi; exact absurd hz3 hj
            · exact h6 z hz (by omega) hz3
          · dsimp only
            rw [hc, if_neg hj]; omega) (a.length - lo) FU ([], (lo : Int)) ⟨lo, rfl, by omega, by omega, by simp, by simp, fun i h1 h2 => by omega, by simp [cnt, sumR]⟩ (by simp only [FU]; omega)
  exact ⟨t, by simp only [h1, Option.bind_some], h2⟩
theorem rep_far : ∀ m : Nat, m < 13 → m_slices_Repeat_int_int FU [1099511627776] (m : Int) = some (List.replicate m 1099511627776) := by decide +kernel
theorem rep_neg : ∀ m : Nat, m < 13 → m_slices_Repeat_int_int FU [-1] (m : Int) = some (List.replicate m (-1)) := by decide +kernel

section
variable {p : SProblem} {room a : List Int} {lo : Nat}
theorem add_init (hv : VP p) {r : Nat} (hr : r < p.fCosts.length) {dist by' : List Int} (hd : dist.length = p.fRoom.length) (hb : by'.length = p.fRoom.length) :
    ∃ t : List Int × List Int, iter FU (fun s => m_route_search_add_L1 FU (r : Int) (p.fCosts.getD r []) s.1 s.2.1 s.2.2) ((0 : Int), dist, by') = some t ∧ t.1.length = p.fRoom.length ∧ t.2.length = p.fRoom.length ∧
      ∀ j, j < p.fRoom.length → (Cf p r j ≠ -1 → gI t.1 j = Cf p r j ∧ gI t.2 j = r) ∧ (Cf p r j = -1 → gI t.1 j = gI dist j) := by
  have hrow := hv.row r hr
  have hm := hv.r
  refine iter_inv (σ := Int × List Int × List Int) (I := fun k s => ∃ i : Nat, s.1 = i ∧ i + k = p.fRoom.length ∧ s.2.1.length = p.fRoom.length ∧ s.2.2.length = p.fRoom.length ∧
      (∀ j, j < i → (Cf p r j ≠ -1 → gI s.2.1 j = Cf p r j ∧ gI s.2.2 j = r) ∧ (Cf p r j = -1 → gI s.2.1 j = gI dist j)) ∧ ∀ j, i ≤ j → gI s.2.1 j = gI dist j)
    (Q := fun t : List Int × List Int => t.1.length = p.fRoom.length ∧ t.2.length = p.fRoom.length ∧ ∀ j, j < p.fRoom.length → (Cf p r j ≠ -1 → gI t.1 j = Cf p r j ∧ gI t.2 j = r) ∧ (Cf p r j = -1 → gI t.1 j = gI dist j)) (by
      rintro k ⟨z, d, b⟩ ⟨i, h1, h2, h3, h4, h5, h6⟩
      dsimp only at h1 h3 h4 h5 h6
      subst h1
      simp only [m_route_search_add_L1]
      by_cases hk : k = 0
      · right
        have e : i = p.fRoom.length := by omega
        refine ⟨(d, b), by rw [decide_eq_false (by omega)]; rfl, h3, h4, fun j hj => h5 j (by omega)⟩
      · left
        have hi : i < (p.fCosts.getD r []).length := by omega
        rw [decide_eq_true (show (i : Int) < ((p.fCosts.getD r []).length : Int) by omega), if_pos rfl, ixG hi]
        simp only [Option.bind_some]
        by_cases hc : gI (p.fCosts.getD r []) i = -1
        · simp only [hc, decide_true, Bool.not_true, Bool.false_eq_true, if_false, Option.bind_some]
          rw [wadd1 (show i < 12 by omega) (by decide)]
          refine ⟨_, k - 1, rfl, by omega, i + 1, rfl, by omega, h3, h4, fun j hj => ?_, fun j hj => h6 j (by omega)⟩
          by_cases hji : j = i
          · subst hji
            exact ⟨fun h => absurd hc h, fun _ => h6 j (Nat.le_refl _)⟩
          · exact h5 j (by omega)
        · simp only [hc, decide_false, Bool.not_false, if_true]
          rw [ixG (by omega), setG (by omega)]
          simp only [Option.bind_some]
          rw [ixG (by omega), setG (by omega)]
          simp only [Option.bind_some]
          rw [wadd1 (show i < 12 by omega) (by decide)]
          refine ⟨_, k - 1, rfl, by omega, i + 1, rfl, by omega, by simp [h3], by simp [h4], fun j hj => ?_, fun j hj => ?_⟩
          · dsimp only
            rw [gI_set (by omega), gI_set (by omega)]
            by_cases hji : i = j
            · subst hji
              rw [if_pos rfl, if_pos rfl]
              exact ⟨fun _ => ⟨rfl, rfl⟩, fun h => absurd h hc⟩
            · rw [if_neg hji, if_neg hji]; exact h5 j (by omega)
          · dsimp only
            rw [gI_set (by omega), if_neg (by omega)]; exact h6 j (by omega)) p.fRoom.length FU ((0 : Int), dist, by') ⟨0, rfl, by omega, hd, hb, fun j hj => by omega, fun j _ => rfl⟩ (by simp only [FU]; omega)

/-- A step by which some distance becomes less. -/
def Imp (p : SProblem) (a : List Int) (lo : Nat) (dist by' bk : List Int) (u : List Int × List Int × List Int) : Prop :=
  ∃ j i y : Nat, j < p.fRoom.length ∧ gI dist j < FAR ∧ lo ≤ i ∧ i < a.length ∧ Af a i = j ∧ y < p.fRoom.length ∧ Cf p i y ≠ -1 ∧ gI dist j - Cf p i j + Cf p i y < gI dist y ∧
    u = (dist.set y (gI dist j - Cf p i j + Cf p i y), by'.set y (i : Int), bk.set y (j : Int))
variable (dist by' bk : List Int)
structure Lens (p : SProblem) (dist by' bk : List Int) : Prop where
  d : dist.length = p.fRoom.length
  b : by'.length = p.fRoom.length
  k : bk.length = p.fRoom.length
  r : ∀ j, j < p.fRoom.length → -1000000 ≤ gI dist j ∧ gI dist j ≤ FAR
variable {dist by' bk : List Int}
theorem add_L5 (hv : VP p) (hl : Lens p dist by' bk) (ha : a.length = p.fCosts.length) {j i : Nat} (hj : j < p.fRoom.length) (hf : gI dist j < FAR) (h1 : lo ≤ i) (h2 : i < a.length) (h3 : Af a i = j) :
    ∃ t, iter FU (fun s => m_route_search_add_L5 FU ⟨p, room, a, (lo : Int)⟩ dist by' bk (j : Int) (i : Int) (p.fCosts.getD i []) s) (0 : Int) = some t ∧
      Sum.elim (Imp p a lo dist by' bk) (fun _ => ∀ y, y < p.fRoom.length → Cf p i y ≠ -1 → gI dist y ≤ gI dist j - Cf p i j + Cf p i y) t := by
  have hrow := hv.row i (by omega)
  have hm := hv.r
  have hcj : -1 ≤ gI (p.fCosts.getD i []) j ∧ gI (p.fCosts.getD i []) j ≤ 10000 := hv.co i j (by omega) hj
  have hdj := hl.r j hj
  refine iter_inv (σ := Int) (I := fun k s => ∃ y : Nat, s = y ∧ y + k = p.fRoom.length ∧ ∀ z, z < y → Cf p i z ≠ -1 → gI dist z ≤ gI dist j - Cf p i j + Cf p i z)
    (Q := fun t => Sum.elim (Imp p a lo dist by' bk) (fun _ => ∀ y, y < p.fRoom.length → Cf p i y ≠ -1 → gI dist y ≤ gI dist j - Cf p i j + Cf p i y) t) (by
      rintro k s ⟨y, rfl, g1, g2⟩
      simp only [m_route_search_add_L5]
      by_cases hk : k = 0
      · right
        refine ⟨.inr (), by rw [decide_eq_false (by omega)]; rfl, fun z hz => g2 z (by omega)⟩
      · have hy : y < (p.fCosts.getD i []).length := by omega
        have hcy : -1 ≤ gI (p.fCosts.getD i []) y ∧ gI (p.fCosts.getD i []) y ≤ 10000 := hv.co i y (by omega) (by omega)
        have hdy := hl.r y (by omega)
        rw [decide_eq_true (show (y : Int) < ((p.fCosts.getD i []).length : Int) by omega), if_pos rfl, ixG hy]
        simp only [Option.bind_some]
        by_cases hc : gI (p.fCosts.getD i []) y = -1
        · left
          simp only [hc, decide_true, Bool.not_true, Bool.false_eq_true, if_false, Option.bind_some, Bool.false_and]
          rw [wadd1 (show y < 12 by omega) (by decide)]
          refine ⟨_, k - 1, rfl, by omega, y + 1, rfl, by omega, fun z hz hcz => ?_⟩
          by_cases hzy : z = y
          · subst hzy; exact absurd hc hcz
          · exact g2 z (by omega) hcz
        · simp only [hc, decide_false, Bool.not_false, if_true, Bool.true_and]
          rw [ixG (show j < dist.length by rw [hl.d]; exact hj), ixC (show i < p.fCosts.length by omega)]
          simp only [Option.bind_some]
          rw [ixG (show j < (p.fCosts.getD i []).length by omega), ixG (show y < dist.length by rw [hl.d]; omega)]
          simp only [Option.bind_some]
          rw [w64 (x := gI dist j - gI (p.fCosts.getD i []) j) (by dsimp only [FAR] at *; omega) (by dsimp only [FAR] at *; omega), w64 (by dsimp only [FAR] at *; omega) (by dsimp only [FAR] at *; omega)]
          by_cases hlt : gI dist j - gI (p.fCosts.getD i []) j + gI (p.fCosts.getD i []) y < gI dist y
          · right
            simp only [hlt, decide_true, if_true]
            rw [setG (by rw [hl.d]; omega), ixG (by rw [hl.b]; omega)]
            simp only [Option.bind_some]
            rw [setG (by rw [hl.b]; omega), ixG (by rw [hl.k]; omega)]
            simp only [Option.bind_some]
            rw [setG (by rw [hl.k]; omega)]
            exact ⟨_, rfl, j, i, y, hj, hf, h1, h2, h3, by omega, hc, hlt, rfl⟩
          · left
            simp only [hlt, decide_false, Bool.false_eq_true, if_false]
            rw [wadd1 (show y < 12 by omega) (by decide)]
            refine ⟨_, k - 1, rfl, by omega, y + 1, rfl, by omega, fun z hz hcz => ?_⟩
            by_cases hzy : z = y
            · subst hzy; exact Int.not_lt.1 hlt
            · exact g2 z (by omega) hcz) p.fRoom.length FU 0 ⟨0, rfl, by omega, fun z hz => by omega⟩ (by simp only [FU]; omega)
theorem add_L4 (hv : VP p) (hl : Lens p dist by' bk) (ha : a.length = p.fCosts.length) {j : Nat} (hj : j < p.fRoom.length) (hf : gI dist j < FAR) {l : List Int} (hll : l.length ≤ 12) (hmem : ∀ x ∈ l, ∃ i : Nat, x = i ∧ lo ≤ i ∧ i < a.length ∧ Af a i = j) :
    ∃ t, iter FU (fun s => m_route_search_add_L4 FU ⟨p, room, a, (lo : Int)⟩ dist by' bk (j : Int) l s) (0 : Int) = some t ∧
      Sum.elim (Imp p a lo dist by' bk) (fun _ => ∀ i : Nat, (i : Int) ∈ l → ∀ y, y < p.fRoom.length → Cf p i y ≠ -1 → gI dist y ≤ gI dist j - Cf p i j + Cf p i y) t := by
  refine iter_inv (σ := Int) (I := fun k s => ∃ q : Nat, s = q ∧ q + k = l.length ∧ ∀ z : Nat, z < q → ∀ i : Nat, gI l z = i → ∀ y, y < p.fRoom.length → Cf p i y ≠ -1 → gI dist y ≤ gI dist j - Cf p i j + Cf p i y)
    (Q := fun t => Sum.elim (Imp p a lo dist by' bk) (fun _ => ∀ i : Nat, (i : Int) ∈ l → ∀ y, y < p.fRoom.length → Cf p i y ≠ -1 → gI dist y ≤ gI dist j - Cf p i j + Cf p i y) t) (by
      rintro k s ⟨q, rfl, g1, g2⟩
      simp only [m_route_search_add_L4]
      by_cases hk : k = 0
      · right
        refine ⟨.inr (), by rw [decide_eq_false (by omega)]; rfl, fun i hi => ?_⟩
        obtain ⟨z, hz, hzi⟩ := List.getElem_of_mem hi
        exact g2 z (by omega) i (by simp [hz, hzi])
      · have hq : q < l.length := by omega
        obtain ⟨i, e, i1, i2, i3⟩ := hmem (gI l q) (by simp [hq])
        rw [decide_eq_true (show (q : Int) < (l.length : Int) by omega), if_pos rfl, ixG hq, Option.bind_some, e, ixC (show i < p.fCosts.length by omega), Option.bind_some]
        obtain ⟨t, t1, t2⟩ := add_L5 (room := room) hv hl ha hj hf i1 i2 i3
        rw [t1, Option.bind_some]
        cases t with
        | inl u => exact .inr ⟨.inl u, rfl, t2⟩
        | inr u =>
          left
          dsimp only
          rw [wadd1 (show q < 12 by omega) (by decide)]
          refine ⟨_, k - 1, rfl, by omega, q + 1, rfl, by omega, fun z hz w hw => ?_⟩
          by_cases hzq : z = q
          · subst hzq
            rw [e] at hw
            obtain rfl : i = w := by omega
            exact t2
          · exact g2 z (by omega) w hw) l.length FU 0 ⟨0, rfl, by omega, fun z hz => by omega⟩ (by simp only [FU]; omega)
theorem add_L3 (hv : VP p) (hl : Lens p dist by' bk) (ha : a.length = p.fCosts.length) (hlo : lo ≤ a.length) (hr : room.length = p.fRoom.length) :
    ∃ t, iter FU (fun s => m_route_search_add_L3 FU ⟨p, room, a, (lo : Int)⟩ dist by' bk s) (0 : Int) = some t ∧
      Sum.elim (Imp p a lo dist by' bk) (fun _ => ∀ j, j < p.fRoom.length → gI dist j < FAR → ∀ i : Nat, lo ≤ i → i < a.length → Af a i = j → ∀ y, y < p.fRoom.length → Cf p i y ≠ -1 → gI dist y ≤ gI dist j - Cf p i j + Cf p i y) t := by
  have hm := hv.r
  have hc := hv.c
  refine iter_inv (σ := Int) (I := fun k s => ∃ q : Nat, s = q ∧ q + k = p.fRoom.length ∧ ∀ j, j < q → gI dist j < FAR → ∀ i : Nat, lo ≤ i → i < a.length → Af a i = j → ∀ y, y < p.fRoom.length → Cf p i y ≠ -1 → gI dist y ≤ gI dist j - Cf p i j + Cf p i y)
    (Q := fun t => Sum.elim (Imp p a lo dist by' bk) (fun _ => ∀ j, j < p.fRoom.length → gI dist j < FAR → ∀ i : Nat, lo ≤ i → i < a.length → Af a i = j → ∀ y, y < p.fRoom.length → Cf p i y ≠ -1 → gI dist y ≤ gI dist j - Cf p i j + Cf p i y) t) (by
      rintro k s ⟨q, rfl, g1, g2⟩
      simp only [m_route_search_add_L3]
      by_cases hk : k = 0
      · right
        exact ⟨.inr (), by rw [decide_eq_false (by omega)]; rfl, fun j hj => g2 j (by omega)⟩
      · have hq : q < p.fRoom.length := by omega
        rw [decide_eq_true (show (q : Int) < (room.length : Int) by omega), if_pos rfl, ixG (by rw [hl.d]; exact hq)]
        simp only [Option.bind_some]
        by_cases hf : FAR ≤ gI dist q
        · left
          simp only [hf, decide_true, if_true, Option.bind_some]
          rw [wadd1 (show q < 12 by omega) (by decide)]
          refine ⟨_, k - 1, rfl, by omega, q + 1, rfl, by omega, fun j hj hjf => ?_⟩
          by_cases hjq : j = q
          · subst hjq; omega
          · exact g2 j (by omega) hjf
        · simp only [hf, decide_false, Bool.false_eq_true, if_false]
          obtain ⟨l, l1, l2, l3, l4⟩ := asg (q := p) (room := room) (show a.length ≤ 12 by omega) hlo q
          have hll : l.length ≤ 12 := by
            have : cnt (Af a) lo (a.length - lo) q ≤ 12 := by
              have := sumR_le (a.length - lo) lo (f := fun i => if Af a i = (q : Int) then 1 else 0) (g := fun _ => 1) (fun i _ _ => by split <;> omega)
              have e : ∀ (k lo : Nat), sumR (fun _ => 1) lo k = k := by
                intro k
                induction k with
                | zero => intro lo; rfl
                | succ k ih => intro lo; rw [sumR, ih]; omega
              rw [e] at this
              unfold cnt; omega
            omega
          rw [show (⟨(⟨p.fCosts, p.fRoom, p.fPenalty⟩ : SProblem), room, a, (lo : Int)⟩ : Ssearch) = ⟨p, room, a, (lo : Int)⟩ from rfl, l1, Option.bind_some]
          obtain ⟨t, t1, t2⟩ := add_L4 (room := room) hv hl ha hq (by omega) hll l2
          rw [t1, Option.bind_some]
          cases t with
          | inl u => exact .inr ⟨.inl u, rfl, t2⟩
          | inr u =>
            left
            simp only [Option.bind_some]
            rw [wadd1 (show q < 12 by omega) (by decide)]
            refine ⟨_, k - 1, rfl, by omega, q + 1, rfl, by omega, fun j hj hjf i i1 i2 i3 => ?_⟩
            by_cases hjq : j = q
            · subst hjq
              exact t2 i (l3 i i1 i2 i3)
            · exact g2 j (by omega) hjf i i1 i2 i3) p.fRoom.length FU 0 ⟨0, rfl, by omega, fun z hz => by omega⟩ (by simp only [FU]; omega)
end
end Go.Proofs.Ythjinjinnklkgaa.Ab
