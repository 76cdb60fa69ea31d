/- The best assignment, one request after the other. Conditions: none. -/
import Derived.Test.YthjinjinnklkgaaRf
namespace Go.Proofs.Ythjinjinnklkgaa.Ab
open Go
section
variable {p : SProblem} {lo k : Nat}
theorem Perm.congr {m : Nat} {C : Nat → Nat → Int} {A : Nat → Int} {f g : Nat → Int} (h : Perm m C A lo k f) (e : ∀ j, j < m → f j = g j) : Perm m C A lo k g :=
  ⟨h.ok, fun j hj => by rw [← e j hj]; exact h.rm j hj⟩
theorem IsOpt.congr {f g : Nat → Int} {N : Int} (h : IsOpt p f lo N) (e : ∀ j, j < p.fRoom.length → f j = g j) : IsOpt p g lo N := by
  obtain ⟨⟨A, hA, c⟩, h2⟩ := h
  exact ⟨⟨A, hA.congr e, c⟩, fun B hB => h2 B (hB.congr (fun j hj => (e j hj).symm))⟩
theorem sumR_split (f : Nat → Int) : ∀ (k1 k2 lo : Nat), sumR f lo (k1 + k2) = sumR f lo k1 + sumR f (lo + k1) k2
  | 0, k2, lo => by simp [sumR]
  | k1 + 1, k2, lo => by
    rw [show k1 + 1 + k2 = (k1 + k2) + 1 by omega, sumR, sumR, sumR_split f k1 k2 (lo + 1), show lo + 1 + k1 = lo + (k1 + 1) by omega]; omega
theorem set_back {l : List Int} {i : Nat} {x : Int} (h : i < l.length) : (l.set i x).set i (gI l i) = l := by
  rw [List.set_set]
  apply List.ext_getElem
  · simp
  · intro n h1 h2
    rw [List.getElem_set]
    split
    · rename_i e; subst e; simp [h]
    · rfl
/-- A choice that is as good as the best one. -/
def Fits (p : SProblem) (R : Nat → Int) (i : Nat) (left x : Int) : Prop :=
  okX p.fRoom.length (Cf p) i x ∧ (∀ j, j < p.fRoom.length → x = (j : Int) → 1 ≤ R j) ∧ IsOpt p (less R x) (i + 1) (left - cst (Cf p) p.fPenalty i x)
theorem solve_L2 (hv : VP p) {R al : List Int} {i : Nat} {left : Int} (hi : i < p.fCosts.length) (hR : R.length = p.fRoom.length) (hnn : ∀ j, j < p.fRoom.length → 0 ≤ gI R j ∧ gI R j ≤ 20) (hal : al.length ≤ 12) (hopt : IsOpt p (gI R) i left) :
    ∃ t : Int × List Int × List Int, iter FU (fun s => m_route_Solve_L2 FU p left al (i : Int) s.1 s.2) ((-1 : Int), R) = some t ∧
      ∃ x, Fits p (gI R) i left x ∧ t.1 = left - cst (Cf p) p.fPenalty i x ∧ t.2.1 = al ++ [x] ∧ t.2.2.length = p.fRoom.length ∧ (∀ j, j < p.fRoom.length → gI t.2.2 j = less (gI R) x j) ∧ ∀ x', x' < x → ¬ Fits p (gI R) i left x' := by
  have hm := hv.r
  have hp1 := hv.p1
  have hp2 := hv.p2
  have hlb := hopt.bound hv (by omega)
  obtain ⟨⟨xx, hxx⟩, hfirst⟩ := hopt.first hi
  have low : ∀ x, Fits p (gI R) i left x → -1 ≤ x ∧ x < p.fRoom.length := fun x hx => by
    rcases okX_cases hx.1 with rfl | ⟨j, rfl, hj, _⟩ <;> omega
  -- whether a choice fits is told by the least cost of the rest
  have tell : ∀ x N', okX p.fRoom.length (Cf p) i x → (∀ j, j < p.fRoom.length → x = (j : Int) → 1 ≤ gI R j) → IsOpt p (less (gI R) x) (i + 1) N' → (Fits p (gI R) i left x ↔ cst (Cf p) p.fPenalty i x + N' = left) := fun x N' h1 h2 h3 => by
    constructor
    · rintro ⟨_, _, h⟩
      have := h.uniq h3; omega
    · intro e
      exact ⟨h1, h2, by rw [show left - cst (Cf p) p.fPenalty i x = N' by omega]; exact h3⟩
  refine iter_inv (σ := Int × List Int) (I := fun kk s => ∃ j : Int, s = (j, R) ∧ -1 ≤ j ∧ j + kk = p.fRoom.length ∧ ∀ x', x' < j → ¬ Fits p (gI R) i left x')
    (Q := fun t : Int × List Int × List Int => ∃ x, Fits p (gI R) i left x ∧ t.1 = left - cst (Cf p) p.fPenalty i x ∧ t.2.1 = al ++ [x] ∧ t.2.2.length = p.fRoom.length ∧ (∀ j, j < p.fRoom.length → gI t.2.2 j = less (gI R) x j) ∧ ∀ x', x' < x → ¬ Fits p (gI R) i left x') (by
      rintro kk s ⟨j, rfl, j0, h1, h2⟩
      simp only [m_route_Solve_L2]
      by_cases hk : kk = 0
      · exact absurd hxx (h2 xx (by have := low xx hxx; omega))
      · rw [decide_eq_true (show j < (R.length : Int) by rw [hR]; omega), if_pos rfl]
        have nexti : (¬ Fits p (gI R) i left j) → ∀ x', x' < j + 1 → ¬ Fits p (gI R) i left x' := fun hno x' hx' => by
          by_cases e : x' = j
          · subst e; exact hno
          · exact h2 x' (by omega)
        have hw : IntKind.i64.wrap (j + 1) = j + 1 := w64 (by omega) (by omega)
        have hwi : IntKind.i64.wrap ((i : Int) + 1) = ((i + 1 : Nat) : Int) := wadd1 (show i < 12 by have := hv.c; omega) (by decide)
        rcases (show j = -1 ∨ 0 ≤ j by omega) with rfl | hj0
        · -- nobody
          simp only [decide_true, Bool.not_true, Bool.false_eq_true, if_false, Option.bind_some]
          obtain ⟨N', n1, n2⟩ := least_opt hv hR (fun j hj => (hnn j hj).1) (show i + 1 ≤ p.fCosts.length by omega)
          have n3 : IsOpt p (less (gI R) (-1)) (i + 1) N' := n2.congr (fun j _ => by unfold less; rw [if_neg (by omega)]; omega)
          have nb := n3.bound hv (by omega)
          have ht := tell (-1) N' (.inl rfl) (fun j _ hj => by omega) n3
          rw [cst_n] at ht
          rw [hwi, show (⟨p.fCosts, p.fRoom, p.fPenalty⟩ : SProblem) = p from rfl, n1, Option.bind_some, w64 (x := p.fPenalty + N') (by omega) (by omega)]
          by_cases hf : p.fPenalty + N' = left
          · right
            simp only [hf, decide_true, if_true]
            rw [app_some (by decide) (by simp; omega), Option.bind_some, w64 (by omega) (by omega)]
            exact ⟨_, rfl, -1, ht.2 hf, by rw [cst_n], rfl, hR, fun j _ => by unfold less; rw [if_neg (by omega)]; dsimp only; omega, h2⟩
          · left
            simp only [hf, decide_false, Bool.false_eq_true, if_false, Option.bind_some]
            exact ⟨_, kk - 1, rfl, by omega, 0, by rw [show IntKind.i64.wrap (-1 + 1) = 0 by rw [w64 (by omega) (by omega)]; rfl], by omega, by omega, nexti (fun h => hf (ht.1 h))⟩
        · obtain ⟨z, rfl⟩ := Int.eq_ofNat_of_zero_le hj0
          have hz : z < p.fRoom.length := by omega
          have hnz := hnn z hz
          have hco : -1 ≤ gI (p.fCosts.getD i []) z ∧ gI (p.fCosts.getD i []) z ≤ 10000 := hv.co i z hi hz
          have hCf : gI (p.fCosts.getD i []) z = Cf p i z := rfl
          rw [decide_eq_false (show ¬ (z : Int) = -1 by omega)]
          simp only [Bool.not_false, if_true]
          rw [ixC hi, Option.bind_some, ixG (by rw [hv.row i hi]; exact hz)]
          simp only [Option.bind_some]
          by_cases hc : gI (p.fCosts.getD i []) z = -1
          · left
            simp only [hc, decide_true, Bool.not_true, Bool.false_eq_true, if_false, Option.bind_some, Bool.true_or, if_true]
            rw [hw]
            refine ⟨_, kk - 1, rfl, by omega, (z : Int) + 1, rfl, by omega, by omega, nexti (fun h => ?_)⟩
            rcases okX_cases h.1 with e | ⟨j', e, _, hcj⟩
            · omega
            · obtain rfl : z = j' := by omega
              exact hcj (hCf ▸ hc)
          · simp only [hc, decide_false, Bool.not_false, if_true, Bool.false_or]
            rw [ixG (by rw [hR]; exact hz)]
            simp only [Option.bind_some]
            by_cases hr : gI R z = 0
            · left
              simp only [hr, decide_true, if_true, Option.bind_some]
              rw [hw]
              refine ⟨_, kk - 1, rfl, by omega, (z : Int) + 1, rfl, by omega, by omega, nexti (fun h => ?_)⟩
              have := h.2.1 z hz rfl
              omega
            · simp only [hr, decide_false, Bool.false_eq_true, if_false]
              rw [w64 (x := gI R z - 1) (by omega) (by omega), setG (by rw [hR]; exact hz)]
              simp only [Option.bind_some]
              have hR1 : (R.set z (gI R z - 1)).length = p.fRoom.length := by simp [hR]
              have hg1 : ∀ y, gI (R.set z (gI R z - 1)) y = if z = y then gI R z - 1 else gI R y := fun y => gI_set (by rw [hR]; exact hz)
              have hls : ∀ y, y < p.fRoom.length → gI (R.set z (gI R z - 1)) y = less (gI R) (z : Int) y := fun y _ => by
                rw [hg1]; unfold less
                by_cases hzy : z = y
                · subst hzy; rw [if_pos rfl, if_pos rfl]
                · rw [if_neg hzy, if_neg (by omega)]; omega
              obtain ⟨N', n1, n2⟩ := least_opt hv hR1 (fun y hy => by
                rw [hg1]
                by_cases hh : z = y
                · rw [if_pos hh]; omega
                · rw [if_neg hh]; exact (hnn y hy).1) (show i + 1 ≤ p.fCosts.length by omega)
              have n3 := n2.congr hls
              have nb := n3.bound hv (by omega)
              have ht := tell (z : Int) N' (okX_j hz (hCf ▸ hc)) (fun y hy hzy => by rw [show y = z by omega]; omega) n3
              rw [cst_j, ← hCf] at ht
              rw [hwi, show (⟨p.fCosts, p.fRoom, p.fPenalty⟩ : SProblem) = p from rfl, n1, Option.bind_some, w64 (x := gI (p.fCosts.getD i []) z + N') (by omega) (by omega)]
              by_cases hf : gI (p.fCosts.getD i []) z + N' = left
              · right
                simp only [hf, decide_true, if_true]
                rw [app_some (by decide) (by simp; omega), Option.bind_some, w64 (by omega) (by omega)]
                exact ⟨_, rfl, (z : Int), ht.2 hf, by rw [cst_j], rfl, hR1, hls, h2⟩
              · left
                simp only [hf, decide_false, Bool.false_eq_true, if_false]
                rw [ixG (by rw [hR1]; exact hz)]
                simp only [Option.bind_some]
                rw [hg1, if_pos rfl, w64 (x := gI R z - 1 + 1) (by omega) (by omega), setG (by rw [hR1]; exact hz)]
                simp only [Option.bind_some]
                rw [hw, show gI R z - 1 + 1 = gI R z by omega, set_back (by rw [hR]; exact hz)]
                exact ⟨_, kk - 1, rfl, by omega, (z : Int) + 1, rfl, by omega, by omega, nexti (fun h => hf (ht.1 h))⟩) (p.fRoom.length + 1) FU (-1, R) ⟨-1, rfl, by omega, by omega, fun x' hx' h => by have := low x' h; omega⟩ (by simp only [FU]; omega)
/-- The best assignment, and the first one of them. -/
structure Best (p : SProblem) (a : List Int) : Prop where
  al : a.length = p.fCosts.length
  pm : Perm p.fRoom.length (Cf p) (Af a) 0 p.fCosts.length (gI p.fRoom)
  op : ∀ B, Perm p.fRoom.length (Cf p) B 0 p.fCosts.length (gI p.fRoom) → costA (Cf p) p.fPenalty (Af a) 0 p.fCosts.length ≤ costA (Cf p) p.fPenalty B 0 p.fCosts.length
  lx : ∀ B, Perm p.fRoom.length (Cf p) B 0 p.fCosts.length (gI p.fRoom) → costA (Cf p) p.fPenalty B 0 p.fCosts.length = costA (Cf p) p.fPenalty (Af a) 0 p.fCosts.length →
    (∀ z, z < p.fCosts.length → B z = Af a z) ∨ ∃ z, z < p.fCosts.length ∧ (∀ w, w < z → B w = Af a w) ∧ Af a z < B z
  ct : ∃ v : Nat → Int, Cert p.fRoom.length (Cf p) p.fPenalty v (Af a) 0 p.fCosts.length (gI p.fRoom)
theorem Af_snoc {al : List Int} {x : Int} {z : Nat} : Af (al ++ [x]) z = if z = al.length then x else Af al z := by
  unfold Af
  simp only [List.getD_eq_getElem?_getD, List.getElem?_append]
  by_cases h : z < al.length
  · rw [if_pos h, if_neg (by omega)]
  · rw [if_neg h]
    by_cases h2 : z = al.length
    · subst h2; simp
    · rw [if_neg h2, List.getElem?_eq_none (by simp; omega), List.getElem?_eq_none (by omega)]
theorem solve_L1 (hv : VP p) {R0 : List Int} (hR0 : R0 = p.fRoom) {N0 : Int} (hopt : IsOpt p (gI p.fRoom) 0 N0) :
    ∃ t : List Int × List Int, iter FU (fun s => m_route_Solve_L1 FU p s.1 s.2.1 s.2.2.1 s.2.2.2) (N0, [], (0 : Int), R0) = some t ∧ Best p t.1 := by
  subst hR0
  have hcn := hv.c
  obtain ⟨t, h1, h2⟩ := iter_inv (σ := Int × List Int × Int × List Int) (τ := List Int × List Int) (f := fun s => m_route_Solve_L1 FU p s.1 s.2.1 s.2.2.1 s.2.2.2)
    (I := fun kk s => ∃ (i : Nat) (left : Int) (al R : List Int), s = (left, al, (i : Int), R) ∧ i + kk = p.fCosts.length ∧ al.length = i ∧ R.length = p.fRoom.length ∧ (∀ j, j < p.fRoom.length → 0 ≤ gI R j ∧ gI R j = gI p.fRoom j - cnt (Af al) 0 i j) ∧
      (∀ z, z < i → okX p.fRoom.length (Cf p) z (Af al z)) ∧ IsOpt p (gI R) i left ∧ costA (Cf p) p.fPenalty (Af al) 0 i + left = N0 ∧
      ∀ B, Perm p.fRoom.length (Cf p) B 0 p.fCosts.length (gI p.fRoom) → costA (Cf p) p.fPenalty B 0 p.fCosts.length = N0 → (∀ z, z < i → B z = Af al z) ∨ ∃ z, z < i ∧ (∀ w, w < z → B w = Af al w) ∧ Af al z < B z)
    (Q := fun t => t.1.length = p.fCosts.length ∧ Perm p.fRoom.length (Cf p) (Af t.1) 0 p.fCosts.length (gI p.fRoom) ∧ costA (Cf p) p.fPenalty (Af t.1) 0 p.fCosts.length = N0 ∧
      ∀ B, Perm p.fRoom.length (Cf p) B 0 p.fCosts.length (gI p.fRoom) → costA (Cf p) p.fPenalty B 0 p.fCosts.length = N0 → (∀ z, z < p.fCosts.length → B z = Af t.1 z) ∨ ∃ z, z < p.fCosts.length ∧ (∀ w, w < z → B w = Af t.1 w) ∧ Af t.1 z < B z) (by
      rintro kk s ⟨i, left, al, R, rfl, g1, g2, g3, g4, g5, g6, g7, g8⟩
      simp only [m_route_Solve_L1]
      by_cases hk : kk = 0
      · right
        have e : i = p.fCosts.length := by omega
        subst e
        refine ⟨(al, R), by rw [decide_eq_false (by omega)]; rfl, g2, ⟨fun z _ hz => g5 z (by omega), fun j hj => ?_⟩, ?_, g8⟩
        · have := g4 j hj; dsimp only; omega
        · obtain ⟨⟨A, _, hA⟩, _⟩ := g6
          have : left = 0 := by rw [← hA]; unfold costA; rw [Nat.sub_self]; rfl
          dsimp only; omega
      · left
        have hi : i < p.fCosts.length := by omega
        rw [decide_eq_true (show (i : Int) < (p.fCosts.length : Int) by omega), if_pos rfl]
        have hroom : ∀ j, j < p.fRoom.length → 0 ≤ gI R j ∧ gI R j ≤ 20 := fun j hj => by
          have := g4 j hj
          have : 0 ≤ gI p.fRoom j ∧ gI p.fRoom j ≤ 20 := hv.rm j hj
          have := cnt_nn (A := Af al) (lo := 0) (k := i) (j := j)
          omega
        obtain ⟨t, t1, x, x1, x2, x3, x4, x5, x6⟩ := solve_L2 hv hi g3 hroom (show al.length ≤ 12 by omega) g6
        rw [t1, Option.bind_some, Option.bind_some, wadd1 (show i < 12 by omega) (by decide)]
        have haf : ∀ z, z < i → Af t.2.1 z = Af al z := fun z hz => by rw [x3, Af_snoc, if_neg (by omega)]
        have haf2 : Af t.2.1 i = x := by rw [x3, Af_snoc, if_pos (by omega)]
        have hcs : ∀ j, cnt (Af t.2.1) 0 (i + 1) j = cnt (Af al) 0 i j + (if x = (j : Int) then 1 else 0) := fun j => by
          unfold cnt
          rw [sumR_snoc, Nat.zero_add, haf2]
          congr 1
          exact sumR_congr i 0 (fun z _ hz => by rw [haf z (by omega)])
        have hcc : costA (Cf p) p.fPenalty (Af t.2.1) 0 (i + 1) = costA (Cf p) p.fPenalty (Af al) 0 i + cst (Cf p) p.fPenalty i x := by
          unfold costA
          rw [sumR_snoc, Nat.zero_add, haf2]
          congr 1
          exact sumR_congr i 0 (fun z _ hz => by rw [haf z (by omega)])
        refine ⟨_, kk - 1, rfl, by omega, i + 1, t.1, t.2.1, t.2.2, rfl, by omega, by rw [x3]; simp [g2], x4, fun j hj => ?_, fun z hz => ?_, ?_, ?_, fun B hB hBN => ?_⟩
        · have h4 := g4 j hj
          rw [x5 j hj, hcs]
          unfold less
          by_cases hxj : x = (j : Int)
          · have := x1.2.1 j hj hxj
            rw [if_pos hxj]; omega
          · rw [if_neg hxj]; omega
        · by_cases hzi : z = i
          · subst hzi; rw [haf2]; exact x1.1
          · rw [haf z (by omega)]; exact g5 z (by omega)
        · rw [x2]
          exact x1.2.2.congr (fun j hj => (x5 j hj).symm)
        · rw [hcc, x2]; omega
        · rcases g8 B hB hBN with hpre | ⟨z, hz, hw, hlt⟩
          · -- the same so far: what comes now
            have hfit : Fits p (gI R) i left (B i) := by
              have hokB := hB.ok i (by omega) (by omega)
              have hcntB : ∀ j, cnt B 0 i j = cnt (Af al) 0 i j := fun j => sumR_congr i 0 (fun z _ hz => by rw [hpre z (by omega)])
              have hcostB : costA (Cf p) p.fPenalty B 0 i = costA (Cf p) p.fPenalty (Af al) 0 i := sumR_congr i 0 (fun z _ hz => by rw [hpre z (by omega)])
              have hsplitc : ∀ j, cnt B 0 p.fCosts.length j = cnt B 0 i j + cnt B i (p.fCosts.length - i) j := fun j => by
                unfold cnt
                have := sumR_split (fun z => if B z = (j : Int) then (1 : Int) else 0) i (p.fCosts.length - i) 0
                rw [Nat.zero_add, show i + (p.fCosts.length - i) = p.fCosts.length by omega] at this
                exact this
              have hsplit : costA (Cf p) p.fPenalty B 0 p.fCosts.length = costA (Cf p) p.fPenalty B 0 i + costA (Cf p) p.fPenalty B i (p.fCosts.length - i) := by
                unfold costA
                have := sumR_split (fun z => cst (Cf p) p.fPenalty z (B z)) i (p.fCosts.length - i) 0
                rw [Nat.zero_add, show i + (p.fCosts.length - i) = p.fCosts.length by omega] at this
                exact this
              have hPB : Perm p.fRoom.length (Cf p) B i (p.fCosts.length - i) (gI R) := ⟨fun z h1 h2 => hB.ok z (by omega) (by omega), fun j hj => by
                have := hB.rm j hj
                rw [hsplitc, hcntB] at this
                have := g4 j hj
                omega⟩
              rw [show p.fCosts.length - i = p.fCosts.length - (i + 1) + 1 by omega] at hPB hsplit
              obtain ⟨b1, b2⟩ := hPB.tail
              have hone : ∀ j, j < p.fRoom.length → B i = (j : Int) → 1 ≤ gI R j := fun j hj hx => by
                have := hPB.rm j hj
                rw [cnt_cons, if_pos hx] at this
                have := cnt_nn (A := B) (lo := i + 1) (k := p.fCosts.length - (i + 1)) (j := j)
                omega
              refine ⟨b1, hone, ⟨B, b2, ?_⟩, fun B' hB' => ?_⟩
              · rw [costA_cons] at hsplit; omega
              · obtain ⟨c1, c2⟩ := hB'.cons b1
                have := g6.2 _ (by rw [show p.fCosts.length - i = p.fCosts.length - (i + 1) + 1 by omega]; exact c1)
                rw [show p.fCosts.length - i = p.fCosts.length - (i + 1) + 1 by omega, c2] at this
                omega
            have hge : x ≤ B i := Int.not_lt.1 (fun h => x6 _ h hfit)
            by_cases hBx : B i = x
            · left
              intro z hz
              by_cases hzi : z = i
              · subst hzi; rw [haf2]; exact hBx
              · rw [haf z (by omega)]; exact hpre z (by omega)
            · right
              exact ⟨i, by omega, fun w hw => by rw [haf w hw]; exact hpre w hw, by rw [haf2]; omega⟩
          · right
            exact ⟨z, by omega, fun w hw' => by rw [haf w (by omega)]; exact hw w hw', by rw [haf z hz]; exact hlt⟩) p.fCosts.length FU (N0, [], 0, p.fRoom) ⟨0, N0, [], p.fRoom, rfl, by omega, rfl, rfl, fun j hj => ⟨(hv.rm j hj).1, by simp [cnt, sumR]⟩, fun z hz => by omega, hopt, by simp [costA, sumR], fun B _ _ => .inl (fun z hz => by omega)⟩ (by simp only [FU]; omega)
  obtain ⟨q1, q2, q3, q4⟩ := h2
  refine ⟨t, h1, q1, q2, fun B hB => ?_, fun B hB hc => q4 B hB (by omega), ?_⟩
  · rw [q3]; exact hopt.2 B hB
  · obtain ⟨a, hG, _⟩ := least_ok (room := p.fRoom) (lo := 0) hv rfl (fun j hj => (hv.rm j hj).1) (Nat.zero_le _)
    obtain ⟨v, hct, _⟩ := hG.ct
    have hpm := hG.pm
    rw [Nat.sub_zero] at hct hpm
    refine ⟨v, (hct.least hpm q2).2 ?_⟩
    rw [q3]
    exact hopt.2 _ (by rw [Nat.sub_zero]; exact hpm)
end
end Go.Proofs.Ythjinjinnklkgaa.Ab
