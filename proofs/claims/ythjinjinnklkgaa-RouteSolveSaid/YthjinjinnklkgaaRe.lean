/- A further request is added: what the function computes. Conditions: none. -/
import Derived.Test.YthjinjinnklkgaaRd
namespace Go.Proofs.Ythjinjinnklkgaa.Ab
open Go
section
variable {p : SProblem} {room a : List Int} {lo k : Nat} {v : Nat → Int} {dist by' bk : List Int}
theorem Sit.cnt_all (hS : Sit p room a lo k v) (j : Nat) : cnt (Af a) lo (a.length - lo) j = cnt (Af a) lo k j := by
  have hlk := hS.lk
  have : ∀ q, lo + (k + q) ≤ a.length → cnt (Af a) lo (k + q) j = cnt (Af a) lo k j := by
    intro q
    induction q with
    | zero => intro _; rfl
    | succ q ih =>
      intro h
      have e : cnt (Af a) lo (k + (q + 1)) j = cnt (Af a) lo (k + q) j + (if Af a (lo + (k + q)) = (j : Int) then 1 else 0) := by
        unfold cnt; rw [← Nat.add_assoc k, sumR_snoc]
      rw [e, ih (by omega), hS.rest _ (by omega) (by omega), if_neg (by omega)]; omega
  rw [show a.length - lo = k + (a.length - lo - k) by omega]
  exact this _ (by omega)
/-- The end of the way, and what it costs. -/
def EndAt (p : SProblem) (room a : List Int) (lo k : Nat) (dist : List Int) (L e out : Int) : Prop :=
  (e = -1 ∧ out = ((lo + k : Nat) : Int) ∧ L = p.fPenalty) ∨ (∃ j : Nat, e = j ∧ j < p.fRoom.length ∧ gI dist j < FAR ∧ out = -1 ∧ cnt (Af a) lo k j < gI room j ∧ L = gI dist j) ∨
    (∃ j i : Nat, e = j ∧ j < p.fRoom.length ∧ gI dist j < FAR ∧ out = i ∧ lo ≤ i ∧ i < lo + k ∧ Af a i = j ∧ L = gI dist j - Cf p i j + p.fPenalty)
theorem add_L7 (hS : Sit p room a lo k v) (hR : RI p a lo k v dist by' bk) {j : Nat} (hj : j < p.fRoom.length) {l : List Int} (hll : l.length ≤ 12) (hmem : ∀ x ∈ l, ∃ i : Nat, x = i ∧ lo ≤ i ∧ i < a.length ∧ Af a i = j)
    {L e out : Int} (_ : L ≤ p.fPenalty) (hE : EndAt p room a lo k dist L e out) :
    ∃ t : Int × Int × Int, iter FU (fun s => m_route_search_add_L7 FU ⟨p, room, a, (lo : Int)⟩ (dist, by', bk) (j : Int) l s.1 s.2.1 s.2.2.1 s.2.2.2) (L, e, out, (0 : Int)) = some t ∧ t.1 ≤ L ∧ EndAt p room a lo k dist t.1 t.2.1 t.2.2 ∧
      ∀ i : Nat, (i : Int) ∈ l → gI dist j < FAR → t.1 ≤ gI dist j - Cf p i j + p.fPenalty := by
  have hp1 := hS.vp.p1
  have hp2 := hS.vp.p2
  have hd := hR.ln.r j hj
  refine iter_inv (σ := Int × Int × Int × Int) (I := fun kk s => ∃ q : Nat, s.2.2.2 = q ∧ q + kk = l.length ∧ s.1 ≤ L ∧ EndAt p room a lo k dist s.1 s.2.1 s.2.2.1 ∧ ∀ z : Nat, z < q → ∀ i : Nat, gI l z = i → gI dist j < FAR → s.1 ≤ gI dist j - Cf p i j + p.fPenalty)
    (Q := fun t : Int × Int × Int => t.1 ≤ L ∧ EndAt p room a lo k dist t.1 t.2.1 t.2.2 ∧ ∀ i : Nat, (i : Int) ∈ l → gI dist j < FAR → t.1 ≤ gI dist j - Cf p i j + p.fPenalty) (by
      rintro kk ⟨L', e', o', z⟩ ⟨q, h1, h2, h3, h4, h5⟩
      dsimp only at h1 h3 h4 h5
      subst h1
      simp only [m_route_search_add_L7]
      by_cases hk : kk = 0
      · right
        refine ⟨(L', e', o'), by rw [decide_eq_false (by omega)]; rfl, h3, h4, fun i hi hf => ?_⟩
        obtain ⟨z, hz, hzi⟩ := List.getElem_of_mem hi
        exact h5 z (by omega) i (by simp [hz, hzi]) hf
      · left
        have hq : q < l.length := by omega
        obtain ⟨i, e1, i1, i2, i3⟩ := hmem (gI l q) (by simp [hq])
        have hal := hS.al
        have hrow := hS.vp.row i (by omega)
        have hco : -1 ≤ gI (p.fCosts.getD i []) j ∧ gI (p.fCosts.getD i []) j ≤ 10000 := hS.vp.co i j (by omega) hj
        rw [decide_eq_true (show (q : Int) < (l.length : Int) by omega), if_pos rfl, ixG hq, Option.bind_some, e1, ixG (show j < dist.length by rw [hR.ln.d]; exact hj)]
        simp only [Option.bind_some]
        rw [ixC (by omega), Option.bind_some, ixG (by omega)]
        simp only [Option.bind_some]
        rw [w64 (x := gI dist j - gI (p.fCosts.getD i []) j) (by dsimp only [FAR] at *; omega) (by dsimp only [FAR] at *; omega), w64 (x := gI dist j - gI (p.fCosts.getD i []) j + p.fPenalty) (by dsimp only [FAR] at *; omega) (by dsimp only [FAR] at *; omega), w64 (x := (q : Int) + 1) (by omega) (by omega)]
        have hCf : Cf p i j = gI (p.fCosts.getD i []) j := rfl
        have i4 : i < lo + k := by
          refine Nat.lt_of_not_le fun hle => ?_
          have := hS.rest i hle i2
          rw [i3] at this; omega
        by_cases hc : gI dist j < FAR ∧ gI dist j - gI (p.fCosts.getD i []) j + p.fPenalty < L'
        · rw [decide_eq_true hc.1, decide_eq_true hc.2]
          simp only [Bool.and_self, if_true, Option.bind_some]
          refine ⟨_, kk - 1, rfl, by omega, q + 1, by simp, by omega, by dsimp only; omega, .inr (.inr ⟨j, i, rfl, hj, hc.1, rfl, i1, i4, i3, rfl⟩), fun w hw u hu hf => ?_⟩
          by_cases hwq : w = q
          · subst hwq
            rw [e1] at hu
            obtain rfl : i = u := by omega
            exact Int.le_refl _
          · have := h5 w (by omega) u hu hf
            dsimp only; omega
        · have hc' : (decide (gI dist j < 1099511627776) && decide (gI dist j - gI (p.fCosts.getD i []) j + p.fPenalty < L')) = false := by
            rw [Bool.and_eq_false_iff, decide_eq_false_iff_not, decide_eq_false_iff_not]
            exact Classical.not_and_iff_not_or_not.1 hc
          rw [hc']
          simp only [Bool.false_eq_true, if_false, Option.bind_some]
          refine ⟨_, kk - 1, rfl, by omega, q + 1, by simp, by omega, h3, h4, fun w hw u hu hf => ?_⟩
          by_cases hwq : w = q
          · subst hwq
            rw [e1] at hu
            obtain rfl : i = u := by omega
            have : ¬ gI dist j - gI (p.fCosts.getD i []) j + p.fPenalty < L' := fun h => hc ⟨hf, h⟩
            rw [hCf]; dsimp only; omega
          · exact h5 w (by omega) u hu hf) l.length FU (L, e, out, 0) ⟨0, rfl, by omega, Int.le_refl _, hE, fun z hz => by omega⟩ (by simp only [FU]; omega)
theorem add_L6 (hS : Sit p room a lo k v) (hR : RI p a lo k v dist by' bk) :
    ∃ (L : Int) (t : Int × Int), iter FU (fun s => m_route_search_add_L6 FU ⟨p, room, a, (lo : Int)⟩ (dist, by', bk) s.1 s.2.1 s.2.2.1 s.2.2.2) (p.fPenalty, (-1 : Int), ((lo + k : Nat) : Int), (0 : Int)) = some t ∧ L ≤ p.fPenalty ∧ EndAt p room a lo k dist L t.1 t.2 ∧
      (∀ j, j < p.fRoom.length → gI dist j < FAR → cnt (Af a) lo k j < gI room j → L ≤ gI dist j) ∧ ∀ j, j < p.fRoom.length → gI dist j < FAR → ∀ i, lo ≤ i → i < lo + k → Af a i = (j : Int) → L ≤ gI dist j - Cf p i j + p.fPenalty := by
  have hp1 := hS.vp.p1
  have hp2 := hS.vp.p2
  have hm := hS.vp.r
  have hc := hS.vp.c
  have hal := hS.al
  have hlk := hS.lk
  have main := iter_inv (σ := Int × Int × Int × Int) (f := fun s => m_route_search_add_L6 FU ⟨p, room, a, (lo : Int)⟩ (dist, by', bk) s.1 s.2.1 s.2.2.1 s.2.2.2)
    (I := fun kk s => ∃ q : Nat, s.2.2.2 = q ∧ q + kk = p.fRoom.length ∧ s.1 ≤ p.fPenalty ∧ EndAt p room a lo k dist s.1 s.2.1 s.2.2.1 ∧
      (∀ j, j < q → gI dist j < FAR → cnt (Af a) lo k j < gI room j → s.1 ≤ gI dist j) ∧ ∀ j, j < q → gI dist j < FAR → ∀ i, lo ≤ i → i < lo + k → Af a i = (j : Int) → s.1 ≤ gI dist j - Cf p i j + p.fPenalty)
    (Q := fun t : Int × Int => ∃ L : Int, L ≤ p.fPenalty ∧ EndAt p room a lo k dist L t.1 t.2 ∧
      (∀ j, j < p.fRoom.length → gI dist j < FAR → cnt (Af a) lo k j < gI room j → L ≤ gI dist j) ∧ ∀ j, j < p.fRoom.length → gI dist j < FAR → ∀ i, lo ≤ i → i < lo + k → Af a i = (j : Int) → L ≤ gI dist j - Cf p i j + p.fPenalty) (by
      rintro kk ⟨L', e', o', z⟩ ⟨q, h1, h2, h3, h4, h5, h6⟩
      dsimp only at h1 h3 h4 h5 h6
      subst h1
      simp only [m_route_search_add_L6]
      by_cases hk : kk = 0
      · right
        exact ⟨(e', o'), by rw [decide_eq_false (by rw [hS.rl]; omega)]; rfl, L', h3, h4, fun j hj => h5 j (by omega), fun j hj => h6 j (by omega)⟩
      · left
        have hq : q < p.fRoom.length := by omega
        obtain ⟨l, l1, l2, l3, l4⟩ := asg (q := p) (room := room) (show a.length ≤ 12 by omega) (show lo ≤ a.length by omega) q
        rw [hS.cnt_all] at l4
        have hll : l.length ≤ 12 := by
          have := sumR_le k lo (f := fun i => if Af a i = (q : Int) then 1 else 0) (g := fun _ => 1) (fun i _ _ => by split <;> omega)
          have e : ∀ (k lo : Nat), sumR (fun _ => 1) lo k = k := by
            intro k
            induction k with
            | zero => intro lo; rfl
            | succ k ih => intro lo; rw [sumR, ih]; omega
          rw [e] at this
          unfold cnt at l4; omega
        have hdq := hR.ln.r q hq
        rw [decide_eq_true (show (q : Int) < (room.length : Int) by rw [hS.rl]; omega), if_pos rfl,
          show (⟨(⟨p.fCosts, p.fRoom, p.fPenalty⟩ : SProblem), room, a, (lo : Int)⟩ : Ssearch) = ⟨p, room, a, (lo : Int)⟩ from rfl, l1, Option.bind_some, ixG (show q < room.length by rw [hS.rl]; exact hq), Option.bind_some, ixG (show q < dist.length by rw [hR.ln.d]; exact hq)]
        obtain ⟨L1, e1, o1, hsel, g1, g2, g3⟩ : ∃ L1 e1 o1 : Int, ((if decide ((l.length : Int) < gI room q) = true then some (gI dist q) else some default).bind fun v15 => (if decide ((l.length : Int) < gI room q) = true then some (gI dist q) else some default).bind fun v16 =>
            if (decide ((l.length : Int) < gI room q) && decide (v16 < L')) = true then (some (gI dist q)).bind fun v17 => (some (gI dist q)).bind fun v18 => some (v18, (q : Int), (-1 : Int)) else some (L', e', o')) = some (L1, e1, o1) ∧ L1 ≤ L' ∧ EndAt p room a lo k dist L1 e1 o1 ∧ (gI dist q < FAR → cnt (Af a) lo k q < gI room q → L1 ≤ gI dist q) := by
          by_cases hr : (l.length : Int) < gI room q
          · by_cases hl : gI dist q < L'
            · exact ⟨gI dist q, q, -1, by simp [-List.getD_eq_getElem?_getD, hr, hl], by omega, .inr (.inl ⟨q, rfl, hq, by dsimp only [FAR]; omega, rfl, by rw [← l4]; exact hr, rfl⟩), fun _ _ => Int.le_refl _⟩
            · exact ⟨L', e', o', by simp [-List.getD_eq_getElem?_getD, hr, hl], Int.le_refl _, h4, fun _ _ => by omega⟩
          · exact ⟨L', e', o', by simp [-List.getD_eq_getElem?_getD, hr], Int.le_refl _, h4, fun _ h => by rw [← l4] at h; omega⟩
        rw [hsel, Option.bind_some]
        obtain ⟨t, t1, t2, t3, t4⟩ := add_L7 hS hR hq hll l2 (show L1 ≤ p.fPenalty by omega) g2
        rw [t1, Option.bind_some, wadd1 (show q < 12 by omega) (by decide)]
        refine ⟨_, kk - 1, rfl, by omega, q + 1, rfl, by omega, by dsimp only; omega, t3, fun j hj hf hcn => ?_, fun j hj hf i i1 i2 i3 => ?_⟩
        · dsimp only
          by_cases hjq : j = q
          · subst hjq
            have := g3 hf hcn; omega
          · have := h5 j (by omega) hf hcn; omega
        · dsimp only
          by_cases hjq : j = q
          · subst hjq
            exact t4 i (l3 i i1 (by omega) i3) hf
          · have := h6 j (by omega) hf i i1 i2 i3; omega) p.fRoom.length FU (p.fPenalty, -1, ((lo + k : Nat) : Int), 0) ⟨0, rfl, by omega, Int.le_refl _, .inl ⟨rfl, rfl, rfl⟩, fun j hj => by omega, fun j hj => by omega⟩ (by simp only [FU]; omega)
  obtain ⟨t, t1, L, t2⟩ := main
  exact ⟨L, t, t1, t2⟩
/-- What a further request leads to. -/
structure Good (p : SProblem) (room a : List Int) (lo k : Nat) : Prop where
  al : a.length = p.fCosts.length
  pm : Perm p.fRoom.length (Cf p) (Af a) lo k (gI room)
  ct : ∃ v : Nat → Int, Cert p.fRoom.length (Cf p) p.fPenalty v (Af a) lo k (gI room) ∧ ∀ j, j < p.fRoom.length → v j ≤ 10000 * k
  rest : ∀ i, lo + k ≤ i → i < a.length → Af a i = -1
theorem add_ok (hv : VP p) (hr : room.length = p.fRoom.length) (hG : Good p room a lo k) (hlk : lo + k < p.fCosts.length) :
    ∃ a', m_route_search_add FU ⟨p, room, a, (lo : Int)⟩ ((lo + k : Nat) : Int) = some ⟨p, room, a', (lo : Int)⟩ ∧ Good p room a' lo (k + 1) := by
  obtain ⟨v, hct, hvb⟩ := hG.ct
  have hm := hv.r
  have hc := hv.c
  have hp2 := hv.p2
  have hal := hG.al
  have hS : Sit p room a lo k v := ⟨hv, hr, hal, by omega, hG.pm, hct, fun j hj => by have := hvb j hj; omega, hG.rest⟩
  unfold m_route_search_add
  obtain ⟨⟨d0, b0⟩, i1, i2, i3, i4⟩ := add_init hv hlk (dist := List.replicate p.fRoom.length 1099511627776) (by' := List.replicate p.fRoom.length 0) (by simp) (by simp)
  dsimp only at i2 i3 i4
  rw [hr, rep_far _ (by omega), Option.bind_some, mkL_some (by decide) (by omega) (by omega), Option.bind_some, rep_neg _ (by omega), Option.bind_some, Int.toNat_natCast]
  dsimp only
  rw [ixC hlk, Option.bind_some, i1, Option.bind_some]
  dsimp only
  -- the start of the search
  have hfin : ∀ j, j < p.fRoom.length → gI d0 j < FAR → Cf p (lo + k) j ≠ -1 := fun j hj hf hcj => by
    rw [(i4 j hj).2 hcj, gI_rep hj] at hf
    exact absurd hf (by decide)
  have hcr : ∀ j, j < p.fRoom.length → Cf p (lo + k) j ≠ -1 → 0 ≤ Cf p (lo + k) j ∧ Cf p (lo + k) j ≤ 10000 := fun j hj hcj => by
    have : -1 ≤ Cf p (lo + k) j ∧ Cf p (lo + k) j ≤ 10000 := hv.co (lo + k) j hlk hj
    omega
  have hR0 : RI p a lo k v d0 b0 (List.replicate p.fRoom.length (-1)) := by
    refine ⟨⟨i2, i3, by simp, fun j hj => ?_⟩, fun j hj hcj => by rw [((i4 j hj).1 hcj).1]; exact Int.le_refl _, fun j hj => ?_, fun j hj hf => ?_, fun j hj hf => ⟨0, .root (gI_rep hj)⟩, fun j hj hf => ?_⟩
    · by_cases hcj : Cf p (lo + k) j = -1
      · rw [(i4 j hj).2 hcj, gI_rep hj]; decide
      · have := hcr j hj hcj
        rw [((i4 j hj).1 hcj).1]; dsimp only [FAR]; omega
    · have := hct.nn j hj
      by_cases hcj : Cf p (lo + k) j = -1
      · rw [(i4 j hj).2 hcj, gI_rep hj]; omega
      · have := hcr j hj hcj
        rw [((i4 j hj).1 hcj).1]; omega
    · have hcj := hfin j hj hf
      have := hcr j hj hcj
      have h1 : 1 ≤ nf p d0 := by
        have := sumR_le p.fRoom.length 0 (f := fun z => if z = j then (1 : Int) else 0) (g := fun z => if gI d0 z < FAR then 1 else 0) (fun z _ _ => by
          by_cases hz : z = j
          · subst hz; rw [if_pos rfl, if_pos hf]; exact Int.le_refl _
          · rw [if_neg hz]; split <;> omega)
        rw [sumR_one, if_pos (by omega)] at this
        exact this
      rw [((i4 j hj).1 hcj).1]; omega
    · have hcj := hfin j hj hf
      exact .inl ⟨gI_rep hj, ((i4 j hj).1 hcj).2, ((i4 j hj).1 hcj).1, hcj⟩
  obtain ⟨⟨d, b, bk⟩, r1, hR, hno⟩ := relax_ends hS hR0
  dsimp only at hR hno
  rw [r1, Option.bind_some]
  obtain ⟨L, ⟨e, out⟩, e1, hL, hE, hl1, hl2⟩ := add_L6 hS hR
  rw [e1, Option.bind_some]
  dsimp only at hE ⊢
  have hnf : nf p d ≤ p.fRoom.length := by
    have := sumR_le p.fRoom.length 0 (f := fun z => if gI d z < FAR then (1 : Int) else 0) (g := fun _ => 1) (fun z _ _ => by split <;> omega)
    have e : ∀ (k lo : Nat), sumR (fun _ => 1) lo k = k := by
      intro k
      induction k with
      | zero => intro lo; rfl
      | succ k ih => intro lo; rw [sumR, ih]; omega
    rw [e] at this
    exact this
  have hD : Dist p.fRoom.length (Cf p) p.fPenalty (Af a) lo k (gI room) (fun j => gI d j < FAR) (gI d) L := by
    refine ⟨fun j hj hcj => ?_, fun j hj hf i h1 h2 h3 y hy hcy => ?_, hL, fun j hj hf hcn => hl1 j hj hf hcn, fun j hj hf i h1 h2 h3 => hl2 j hj hf i h1 h2 h3⟩
    · have := hR.d0 j hj hcj
      have := hcr j hj hcj
      exact ⟨by dsimp only [FAR]; omega, hR.d0 j hj hcj⟩
    · have h4 := hno j hj hf i h1 (by omega) h3 y hy hcy
      have h5 := hR.ub j hj hf
      have h6 := (hS.tight h1 h2 h3 hy hcy).2.1
      have h7 : -1 ≤ Cf p i y ∧ Cf p i y ≤ 10000 := hv.co i y (by omega) hy
      exact ⟨by dsimp only [FAR]; omega, h4⟩
  have hTree : ∀ j, j < p.fRoom.length → gI d j < FAR → Tree p.fRoom.length (Cf p) (Af a) lo k (fun j => gI d j < FAR) (gI d) (gI bk) (gI b) (hgt bk) j := fun j hj hf => by
    rcases hR.ed j hj hf with ⟨b1, b2, b3, b4⟩ | ⟨j', i, b1, b2, b3, b4, b5, b6, b7, b8, b9⟩
    · exact .inl ⟨b1, b2, b3, b4⟩
    · have h4 := hno j' b3 b4 i b5 (by omega) b7 j hj b8
      obtain ⟨n, hn⟩ := hR.rt j' b3 b4
      refine .inr ⟨j', i, b1, b2, b3, b4, b5, b6, b7, b8, by omega, ?_⟩
      rw [hgt_eq hn, hgt_eq (.step b1 hn)]; omega
  have hheight : ∀ j, j < p.fRoom.length → gI d j < FAR → hgt bk j < 12 := fun j hj hf => by
    obtain ⟨n, hn⟩ := hR.rt j hj hf
    obtain ⟨Ls, l1, l2, l3, _⟩ := hn.list (m := p.fRoom.length) (F := fun j => j < p.fRoom.length ∧ gI d j < FAR) (fun z hz => ⟨hz.1, fun j' hj' => by
      rcases hR.ed z hz.1 hz.2 with ⟨b1, _⟩ | ⟨j2, i, b1, b2, b3, b4, _⟩
      · rw [hj'] at b1; omega
      · rw [hj'] at b1
        obtain rfl : j' = j2 := by omega
        exact ⟨b3, b4⟩⟩) ⟨hj, hf⟩
    have := nodup_len _ Ls l2 l3
    rw [hgt_eq hn]; omega
  -- the end is given up
  have hAr : Af a (lo + k) = -1 := hG.rest (lo + k) (Nat.le_refl _) (by omega)
  obtain ⟨a1, ha1, hal1, hB1⟩ : ∃ a1, (if (!decide (out = -1)) = true then (ix a out).bind fun v10 => (setI a out (-1)).bind fun v11 => some v11 else some a : Option (List Int)) = some a1 ∧ a1.length = a.length ∧ ∀ i : Nat, Af a1 i = if out = (i : Int) then -1 else Af a i := by
    by_cases ho : out = -1
    · exact ⟨a, by simp [ho], rfl, fun i => by rw [if_neg (by omega)]⟩
    · obtain ⟨o, rfl, hol⟩ : ∃ o : Nat, out = (o : Int) ∧ o < a.length := by
        rcases hE with ⟨_, h, _⟩ | ⟨j, _, _, _, h, _⟩ | ⟨j, i, _, _, _, h, _, h2, _⟩
        · exact ⟨_, h, by omega⟩
        · exact absurd h ho
        · exact ⟨i, h, by omega⟩
      refine ⟨a.set o (-1), ?_, by simp, fun i => ?_⟩
      · rw [decide_eq_false ho, ixA hol, setG hol]; rfl
      · rw [Af_set hol]
        by_cases hoi : o = i
        · subst hoi; rw [if_pos rfl, if_pos rfl]
        · rw [if_neg hoi, if_neg (by omega)]
  rw [ha1, Option.bind_some]
  have hM0 := Mid.start (h := hgt bk) (B := Af a1) (e := e) (out := out) hG.pm hct hD (fun i h1 h2 => hB1 i) (by rw [hB1]; split <;> first | rfl | exact hAr) hE
  obtain ⟨a2, q1, q2, q3, q4⟩ := iter_inv (σ := Int × List Int) (f := fun s => m_route_search_add_L8 FU (d, b, bk) s.1 s.2)
    (I := fun kk s => Mid p.fRoom.length (Cf p) p.fPenalty (Af a) lo k (gI room) (fun j => gI d j < FAR) v (gI d) L (hgt bk) (Af s.2) s.1 ∧ s.2.length = a.length ∧ (∀ i, lo + (k + 1) ≤ i → i < a.length → Af s.2 i = -1) ∧ (s.1 = -1 ∨ ∃ j : Nat, s.1 = j ∧ kk = hgt bk j + 1))
    (Q := fun t => Mid p.fRoom.length (Cf p) p.fPenalty (Af a) lo k (gI room) (fun j => gI d j < FAR) v (gI d) L (hgt bk) (Af t) (-1) ∧ t.length = a.length ∧ (∀ i, lo + (k + 1) ≤ i → i < a.length → Af t i = -1)) (by
      rintro kk ⟨x, l⟩ ⟨h1, h2, h3, h4⟩
      dsimp only at h1 h2 h3 h4
      simp only [m_route_search_add_L8]
      rcases h4 with rfl | ⟨j, rfl, rfl⟩
      · right
        exact ⟨l, by simp, h1, h2, h3⟩
      · left
        obtain ⟨hj, hf, _⟩ := h1.hx j rfl
        have hT := hTree j hj hf
        obtain ⟨s1, s2⟩ := h1.step hG.pm hct hD hT
        obtain ⟨i, hi, hib⟩ : ∃ i : Nat, gI b j = i ∧ i < lo + (k + 1) := by
          rcases hT with ⟨_, b2, _⟩ | ⟨j', i, _, b2, _, _, _, b6, _⟩
          · exact ⟨_, b2, by omega⟩
          · exact ⟨i, b2, by omega⟩
        have hil : i < l.length := by omega
        rw [hi, Int.toNat_natCast] at s2
        have hfun : Af (l.set i (j : Int)) = updA (Af l) i (j : Int) := by
          funext z
          rw [Af_set hil]
          unfold updA
          by_cases hz : z = i
          · subst hz; simp
          · rw [if_neg (Ne.symm hz), if_neg hz]
        rw [decide_eq_false (show ¬ (j : Int) = -1 by omega)]
        simp only [Bool.not_false, if_true]
        rw [ixG (by rw [hR.ln.b]; exact hj)]
        simp only [Option.bind_some]
        rw [hi, ixA hil, Option.bind_some, setG hil, Option.bind_some, ixG (by rw [hR.ln.k]; exact hj)]
        simp only [Option.bind_some]
        have hrest : ∀ z, lo + (k + 1) ≤ z → z < a.length → Af (l.set i (j : Int)) z = -1 := fun z hz hz2 => by
          rw [Af_set hil, if_neg (by omega)]; exact h3 z hz hz2
        rcases hT with ⟨b1, _⟩ | ⟨j', i', b1, _, b3, b4, _, _, _, _, _, b10⟩
        · exact ⟨_, 0, rfl, by omega, by dsimp only; rw [hfun]; exact s2, by simp [h2], hrest, .inl b1⟩
        · exact ⟨_, hgt bk j' + 1, rfl, by omega, by dsimp only; rw [hfun]; exact s2, by simp [h2], hrest, .inr ⟨j', b1, rfl⟩⟩) (if e = -1 then 0 else hgt bk e.toNat + 1) FU (e, a1) ⟨hM0, hal1, fun i h1 h2 => by
        dsimp only
        rw [hB1, hG.rest i (by omega) h2]; split <;> rfl, by
        rcases hE with ⟨h, _⟩ | ⟨j, h, _⟩ | ⟨j, i, h, _⟩
        · exact .inl h
        · subst h; exact .inr ⟨j, rfl, by rw [if_neg (by omega)]; rfl⟩
        · subst h; exact .inr ⟨j, rfl, by rw [if_neg (by omega)]; rfl⟩⟩ (by
        rcases hE with ⟨h, _⟩ | ⟨j, h, h2, h3, _⟩ | ⟨j, i, h, h2, h3, _⟩
        · rw [if_pos h]; decide
        · subst h
          have := hheight j h2 h3
          rw [if_neg (by omega), Int.toNat_natCast]
          simp only [FU]; omega
        · subst h
          have := hheight j h2 h3
          rw [if_neg (by omega), Int.toNat_natCast]
          simp only [FU]; omega)
  rw [q1, Option.bind_some]
  obtain ⟨f1, f2⟩ := q2.done hct
  refine ⟨a2, rfl, by rw [q3, hal], f1, ⟨_, f2, fun j hj => ?_⟩, fun i h1 h2 => q4 i h1 (by omega)⟩
  have hvj := hvb j hj
  have hnn := hR.nn j hj
  rcases (up_ge (v := v) (d := gI d) (F := fun j => gI d j < FAR) (L := L) j).2.2 with e | ⟨_, e⟩
  · rw [e]; omega
  · rw [e]; omega
end
end Go.Proofs.Ythjinjinnklkgaa.Ab
