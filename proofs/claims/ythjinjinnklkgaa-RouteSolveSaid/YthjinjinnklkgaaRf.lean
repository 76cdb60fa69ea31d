/- The least cost of the requests from some one on. Conditions: none. -/
import Derived.Test.YthjinjinnklkgaaRe
namespace Go.Proofs.Ythjinjinnklkgaa.Ab
open Go
section
variable {p : SProblem} {room a : List Int} {lo k : Nat}
theorem cst_bound (hv : VP p) {i : Nat} {x : Int} (hi : i < p.fCosts.length) (hx : okX p.fRoom.length (Cf p) i x) : 0 ≤ cst (Cf p) p.fPenalty i x ∧ cst (Cf p) p.fPenalty i x ≤ 10000 := by
  have h1 := hv.p1
  have h2 := hv.p2
  rcases okX_cases hx with rfl | ⟨j, rfl, hj, hc⟩
  · rw [cst_n]; omega
  · have : -1 ≤ Cf p i j ∧ Cf p i j ≤ 10000 := hv.co i j hi hj
    rw [cst_j]; omega
theorem costA_bound (hv : VP p) {A : Nat → Int} {lo : Nat} : ∀ k, lo + k ≤ p.fCosts.length → (∀ i, lo ≤ i → i < lo + k → okX p.fRoom.length (Cf p) i (A i)) → 0 ≤ costA (Cf p) p.fPenalty A lo k ∧ costA (Cf p) p.fPenalty A lo k ≤ 10000 * k
  | 0, _, _ => by simp [costA, sumR]
  | k + 1, h, hx => by
    have ih := costA_bound hv k (by omega) (fun i h1 h2 => hx i h1 (by omega))
    have := cst_bound hv (show lo + k < p.fCosts.length by omega) (hx (lo + k) (by omega) (by omega))
    unfold costA at *
    rw [sumR_snoc]; omega
theorem good0 (hn : ∀ j, j < p.fRoom.length → 0 ≤ gI room j) : Good p room (List.replicate p.fCosts.length (-1)) lo 0 := by
  have hrep : ∀ i, i < p.fCosts.length → Af (List.replicate p.fCosts.length (-1)) i = -1 := fun i hi => by simp [hi]
  refine ⟨by simp, ⟨fun i h1 h2 => by omega, fun j hj => by simpa [cnt, sumR] using hn j hj⟩, ⟨fun _ => 0, ⟨fun j _ => Int.le_refl _, fun j _ _ => rfl, fun i h1 h2 => by omega⟩, fun j _ => by simp⟩, fun i h1 h2 => hrep i (by simpa using h2)⟩
theorem least_ok (hv : VP p) (hr : room.length = p.fRoom.length) (hn : ∀ j, j < p.fRoom.length → 0 ≤ gI room j) (hlo : lo ≤ p.fCosts.length) :
    ∃ a, Good p room a lo (p.fCosts.length - lo) ∧ m_route_Problem_least FU p (lo : Int) room = some (costA (Cf p) p.fPenalty (Af a) lo (p.fCosts.length - lo)) := by
  have hc := hv.c
  have hp1 := hv.p1
  have hp2 := hv.p2
  unfold m_route_Problem_least
  rw [rep_neg _ (by omega), Option.bind_some]
  obtain ⟨t, h1, a, rfl, hG⟩ := iter_inv (σ := Int × List Int × List (List Int) × List Int × Int × List Int × Int) (τ := List Int × List (List Int) × List Int × Int × List Int × Int)
    (f := fun s => m_route_Problem_least_L1 FU p s.1 s.2.1 s.2.2.1 s.2.2.2.1 s.2.2.2.2.1 s.2.2.2.2.2.1 s.2.2.2.2.2.2)
    (I := fun kk s => ∃ (k : Nat) (a : List Int), s = (((lo + k : Nat) : Int), a, p.fCosts, p.fRoom, p.fPenalty, room, (lo : Int)) ∧ lo + k + kk = p.fCosts.length ∧ Good p room a lo k)
    (Q := fun t => ∃ a, t = (a, p.fCosts, p.fRoom, p.fPenalty, room, (lo : Int)) ∧ Good p room a lo (p.fCosts.length - lo)) (by
      rintro kk s ⟨k, a, rfl, h2, hG⟩
      simp only [m_route_Problem_least_L1]
      by_cases hk : kk = 0
      · right
        refine ⟨_, by rw [decide_eq_false (by omega)]; rfl, a, rfl, ?_⟩
        rw [show p.fCosts.length - lo = k by omega]; exact hG
      · left
        obtain ⟨a', g1, g2⟩ := add_ok hv hr hG (by omega)
        rw [decide_eq_true (show ((lo + k : Nat) : Int) < (p.fCosts.length : Int) by omega), if_pos rfl, show (⟨(⟨p.fCosts, p.fRoom, p.fPenalty⟩ : SProblem), room, a, (lo : Int)⟩ : Ssearch) = ⟨p, room, a, (lo : Int)⟩ from rfl, g1, Option.bind_some, wadd1 (show lo + k < 12 by omega) (by decide)]
        exact ⟨_, kk - 1, rfl, by omega, k + 1, a', rfl, by omega, g2⟩) (p.fCosts.length - lo) FU ((lo : Int), List.replicate p.fCosts.length (-1), p.fCosts, p.fRoom, p.fPenalty, room, (lo : Int)) ⟨0, _, rfl, by omega, good0 hn⟩ (by simp only [FU]; omega)
  rw [h1, Option.bind_some]
  obtain ⟨t, t1, t2⟩ := iter_inv (σ := Int × Int) (τ := Int) (f := fun s => m_route_Problem_least_L2 FU p (a, p.fCosts, p.fRoom, p.fPenalty, room, (lo : Int)) s.1 s.2)
    (I := fun kk s => ∃ k : Nat, s = (costA (Cf p) p.fPenalty (Af a) lo k, ((lo + k : Nat) : Int)) ∧ lo + k + kk = p.fCosts.length)
    (Q := fun t => t = costA (Cf p) p.fPenalty (Af a) lo (p.fCosts.length - lo)) (by
      rintro kk s ⟨k, rfl, h2⟩
      simp only [m_route_Problem_least_L2]
      by_cases hk : kk = 0
      · right
        refine ⟨_, by rw [decide_eq_false (by omega)]; rfl, ?_⟩
        rw [show p.fCosts.length - lo = k by omega]
      · left
        have hal := hG.al
        have hlk : lo + k < a.length := by omega
        have hx := hG.pm.ok (lo + k) (by omega) (by omega)
        have hb := costA_bound hv (A := Af a) k (by omega) (fun i i1 i2 => hG.pm.ok i i1 (by omega))
        have hcb := cst_bound hv (show lo + k < p.fCosts.length by omega) hx
        have hs : costA (Cf p) p.fPenalty (Af a) lo (k + 1) = costA (Cf p) p.fPenalty (Af a) lo k + cst (Cf p) p.fPenalty (lo + k) (Af a (lo + k)) := by
          unfold costA; rw [sumR_snoc]
        rw [decide_eq_true (show ((lo + k : Nat) : Int) < (p.fCosts.length : Int) by omega), if_pos rfl, ixA hlk]
        simp only [Option.bind_some]
        have hstep : (if decide (Af a (lo + k) = -1) = true then some (IntKind.i64.wrap (costA (Cf p) p.fPenalty (Af a) lo k + p.fPenalty)) else (ix p.fCosts ((lo + k : Nat) : Int)).bind fun v10 => (ix v10 (Af a (lo + k))).bind fun v11 => some (IntKind.i64.wrap (costA (Cf p) p.fPenalty (Af a) lo k + v11))) = some (costA (Cf p) p.fPenalty (Af a) lo (k + 1)) := by
          rw [hs]
          rcases okX_cases hx with e | ⟨j, e, hj, hcj⟩
          · rw [e, cst_n]
            simp only [decide_true, if_true]
            rw [w64 (by omega) (by omega)]
          · rw [e, cst_j] at hcb ⊢
            rw [decide_eq_false (show ¬ (j : Int) = -1 by omega)]
            simp only [Bool.false_eq_true, if_false]
            rw [ixC (by omega), Option.bind_some, ixG (by rw [hv.row _ (by omega)]; exact hj), Option.bind_some]
            have : gI (p.fCosts.getD (lo + k) []) j = Cf p (lo + k) j := rfl
            rw [this, w64 (by omega) (by omega)]
        rw [hstep, Option.bind_some, wadd1 (show lo + k < 12 by omega) (by decide)]
        exact ⟨_, kk - 1, rfl, by omega, k + 1, rfl, by omega⟩) (p.fCosts.length - lo) FU (0, (lo : Int)) ⟨0, by simp [costA, sumR], by omega⟩ (by simp only [FU]; omega)
  rw [t1, Option.bind_some, t2]
  exact ⟨a, hG, rfl⟩

/-- The least cost of the requests from some one on, with some room. -/
def IsOpt (p : SProblem) (room : Nat → Int) (lo : Nat) (N : Int) : Prop :=
  (∃ A, Perm p.fRoom.length (Cf p) A lo (p.fCosts.length - lo) room ∧ costA (Cf p) p.fPenalty A lo (p.fCosts.length - lo) = N) ∧
  ∀ B, Perm p.fRoom.length (Cf p) B lo (p.fCosts.length - lo) room → N ≤ costA (Cf p) p.fPenalty B lo (p.fCosts.length - lo)
theorem least_opt (hv : VP p) (hr : room.length = p.fRoom.length) (hn : ∀ j, j < p.fRoom.length → 0 ≤ gI room j) (hlo : lo ≤ p.fCosts.length) :
    ∃ N, m_route_Problem_least FU p (lo : Int) room = some N ∧ IsOpt p (gI room) lo N := by
  obtain ⟨a, hG, h⟩ := least_ok hv hr hn hlo
  obtain ⟨v, hct, _⟩ := hG.ct
  exact ⟨_, h, ⟨_, hG.pm, rfl⟩, fun B hB => (hct.least hG.pm hB).1⟩
theorem IsOpt.uniq {room : Nat → Int} {N N' : Int} (h : IsOpt p room lo N) (h' : IsOpt p room lo N') : N = N' := by
  obtain ⟨⟨A, hA, e⟩, h2⟩ := h
  obtain ⟨⟨A', hA', e'⟩, h2'⟩ := h'
  have := h2 A' hA'
  have := h2' A hA
  omega
theorem IsOpt.bound (hv : VP p) {room : Nat → Int} {N : Int} (h : IsOpt p room lo N) (hlo : lo ≤ p.fCosts.length) : 0 ≤ N ∧ N ≤ 120000 := by
  obtain ⟨⟨A, hA, e⟩, _⟩ := h
  have := costA_bound hv (A := A) (lo := lo) (p.fCosts.length - lo) (by omega) hA.ok
  have := hv.c
  omega
/-- The room that a choice leaves. -/
def less (room : Nat → Int) (x : Int) (j : Nat) : Int := room j - (if x = (j : Int) then 1 else 0)
theorem cnt_cons {A : Nat → Int} {lo k j : Nat} : cnt A lo (k + 1) j = (if A lo = (j : Int) then 1 else 0) + cnt A (lo + 1) k j := rfl
theorem costA_cons {C : Nat → Nat → Int} {pen : Int} {A : Nat → Int} {lo k : Nat} : costA C pen A lo (k + 1) = cst C pen lo (A lo) + costA C pen A (lo + 1) k := rfl
theorem Perm.tail {m : Nat} {C : Nat → Nat → Int} {A : Nat → Int} {lo k : Nat} {room : Nat → Int} (h : Perm m C A lo (k + 1) room) : okX m C lo (A lo) ∧ Perm m C A (lo + 1) k (less room (A lo)) := by
  refine ⟨h.ok lo (Nat.le_refl _) (by omega), fun i h1 h2 => h.ok i (by omega) (by omega), fun j hj => ?_⟩
  have := h.rm j hj
  rw [cnt_cons] at this
  unfold less; omega
theorem Perm.cons {m : Nat} {C : Nat → Nat → Int} {A : Nat → Int} {lo k : Nat} {room : Nat → Int} {x : Int} (hx : okX m C lo x) (h : Perm m C A (lo + 1) k (less room x)) :
    Perm m C (updA A lo x) lo (k + 1) room ∧ ∀ pen, costA C pen (updA A lo x) lo (k + 1) = cst C pen lo x + costA C pen A (lo + 1) k := by
  have e0 : updA A lo x lo = x := if_pos rfl
  have e1 : ∀ i, lo + 1 ≤ i → updA A lo x i = A i := fun i hi => if_neg (by omega)
  have ec : ∀ j, cnt (updA A lo x) (lo + 1) k j = cnt A (lo + 1) k j := fun j => sumR_congr k (lo + 1) (fun i a _ => by rw [e1 i a])
  refine ⟨⟨fun i h1 h2 => ?_, fun j hj => ?_⟩, fun pen => ?_⟩
  · by_cases hi : i = lo
    · subst hi; rw [e0]; exact hx
    · rw [e1 i (by omega)]; exact h.ok i (by omega) (by omega)
  · have := h.rm j hj
    rw [cnt_cons, e0, ec]
    unfold less at this; omega
  · rw [costA_cons, e0]
    congr 1
    exact sumR_congr k (lo + 1) (fun i a _ => by rw [e1 i a])
/-- One choice after the other. -/
theorem IsOpt.first {room : Nat → Int} {N : Int} (hlo : lo < p.fCosts.length) (h : IsOpt p room lo N) :
    (∃ x, okX p.fRoom.length (Cf p) lo x ∧ (∀ j, j < p.fRoom.length → x = (j : Int) → 1 ≤ room j) ∧ IsOpt p (less room x) (lo + 1) (N - cst (Cf p) p.fPenalty lo x)) ∧
    ∀ x N', okX p.fRoom.length (Cf p) lo x → IsOpt p (less room x) (lo + 1) N' → N ≤ cst (Cf p) p.fPenalty lo x + N' := by
  obtain ⟨⟨A, hA, e⟩, h2⟩ := h
  have hk : p.fCosts.length - lo = p.fCosts.length - (lo + 1) + 1 := by omega
  rw [hk] at hA e h2
  have hext : ∀ x B, okX p.fRoom.length (Cf p) lo x → Perm p.fRoom.length (Cf p) B (lo + 1) (p.fCosts.length - (lo + 1)) (less room x) → N ≤ cst (Cf p) p.fPenalty lo x + costA (Cf p) p.fPenalty B (lo + 1) (p.fCosts.length - (lo + 1)) := fun x B hx hB => by
    obtain ⟨c1, c2⟩ := hB.cons hx
    have := h2 _ c1
    rwa [c2] at this
  constructor
  · obtain ⟨t1, t2⟩ := hA.tail
    refine ⟨A lo, t1, fun j hj hjx => ?_, ⟨A, t2, ?_⟩, fun B hB => ?_⟩
    · have := hA.rm j hj
      rw [cnt_cons, if_pos hjx] at this
      have := cnt_nn (A := A) (lo := lo + 1) (k := p.fCosts.length - (lo + 1)) (j := j)
      omega
    · rw [costA_cons] at e; omega
    · have := hext _ B t1 hB; omega
  · rintro x N' hx ⟨⟨B, hB, eB⟩, _⟩
    have := hext x B hx hB
    omega
end
end Go.Proofs.Ythjinjinnklkgaa.Ab
