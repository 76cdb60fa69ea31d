/- A further request is assigned along a shortest way: plain laws. Conditions: none. -/
import Derived.Test.YthjinjinnklkgaaRa
namespace Go.Proofs.Ythjinjinnklkgaa.Ab
open Go

/-- Distances at which nothing can be made less, and the least end. -/
structure Dist (m : Nat) (C : Nat → Nat → Int) (pen : Int) (A : Nat → Int) (lo k : Nat) (room : Nat → Int) (F : Nat → Prop) (d : Nat → Int) (L : Int) : Prop where
  d0 : ∀ j, j < m → C (lo + k) j ≠ -1 → F j ∧ d j ≤ C (lo + k) j
  d1 : ∀ j, j < m → F j → ∀ i, lo ≤ i → i < lo + k → A i = (j : Int) → ∀ y, y < m → C i y ≠ -1 → F y ∧ d y ≤ d j - C i j + C i y
  l0 : L ≤ pen
  l1 : ∀ j, j < m → F j → cnt A lo k j < room j → L ≤ d j
  l2 : ∀ j, j < m → F j → ∀ i, lo ≤ i → i < lo + k → A i = (j : Int) → L ≤ d j - C i j + pen
open Classical in
noncomputable def up (v d : Nat → Int) (F : Nat → Prop) (L : Int) (j : Nat) : Int := if F j ∧ v j ≤ L - d j then L - d j else v j
theorem up_ge {v d : Nat → Int} {F : Nat → Prop} {L : Int} (j : Nat) : v j ≤ up v d F L j ∧ (F j → L - d j ≤ up v d F L j) ∧ (up v d F L j = v j ∨ (F j ∧ up v d F L j = L - d j)) := by
  unfold up
  by_cases h : F j ∧ v j ≤ L - d j
  · rw [if_pos h]; exact ⟨h.2, fun _ => Int.le_refl _, .inr ⟨h.1, rfl⟩⟩
  · rw [if_neg h]; exact ⟨Int.le_refl _, fun hf => by have : ¬ v j ≤ L - d j := fun hc => h ⟨hf, hc⟩; omega, .inl rfl⟩
theorem tak_n {v : Nat → Int} : tak v (-1) = 0 := rfl
theorem tak_j {v : Nat → Int} (j : Nat) : tak v (j : Int) = v j := by unfold tak; rw [if_neg (by omega)]; rfl
theorem cst_n {C : Nat → Nat → Int} {pen : Int} (i : Nat) : cst C pen i (-1) = pen := rfl
theorem cst_j {C : Nat → Nat → Int} {pen : Int} (i j : Nat) : cst C pen i (j : Int) = C i j := by unfold cst; rw [if_neg (by omega)]; rfl
theorem okX_cases {m : Nat} {C : Nat → Nat → Int} {i : Nat} {x : Int} (h : okX m C i x) : x = -1 ∨ ∃ j : Nat, x = j ∧ j < m ∧ C i j ≠ -1 := by
  rcases h with h | ⟨h0, h1, h2⟩
  · exact .inl h
  · exact .inr ⟨x.toNat, by omega, by omega, h2⟩
theorem okX_j {m : Nat} {C : Nat → Nat → Int} {i j : Nat} (h : j < m) (h2 : C i j ≠ -1) : okX m C i (j : Int) := .inr ⟨by omega, by omega, by simpa using h2⟩
section
variable {m : Nat} {C : Nat → Nat → Int} {pen : Int} {A : Nat → Int} {lo k : Nat} {room : Nat → Int} {v d : Nat → Int} {F : Nat → Prop} {L : Int}
theorem up_tight (hA : Perm m C A lo k room) (hv : Cert m C pen v A lo k room) (hD : Dist m C pen A lo k room F d L) {i : Nat} (h1 : lo ≤ i) (h2 : i < lo + k) {y : Int} (hy : okX m C i y) :
    cst C pen i (A i) + tak (up v d F L) (A i) ≤ cst C pen i y + tak (up v d F L) y := by
  have old := hv.ti i h1 h2 y hy
  have mono : tak v y ≤ tak (up v d F L) y := by
    rcases okX_cases hy with rfl | ⟨z, rfl, _, _⟩
    · exact Int.le_refl _
    · rw [tak_j, tak_j]; exact (up_ge z).1
  rcases okX_cases (hA.ok i h1 h2) with ha | ⟨j, ha, hj, hc⟩
  · rw [ha, tak_n] at old ⊢; omega
  · rw [ha, tak_j, cst_j] at old ⊢
    rcases (up_ge (v := v) (d := d) (F := F) (L := L) j).2.2 with e | ⟨hf, e⟩
    · rw [e]; omega
    · rw [e]
      rcases okX_cases hy with rfl | ⟨z, rfl, hz, hcz⟩
      · have := hD.l2 j hj hf i h1 h2 ha
        rw [cst_n, tak_n]; omega
      · have := hD.d1 j hj hf i h1 h2 ha z hz hcz
        have := (up_ge (v := v) (d := d) (F := F) (L := L) z).2.1 this.1
        rw [cst_j, tak_j]; omega
theorem up_slack (hv : Cert m C pen v A lo k room) (hA : Perm m C A lo k room) (hD : Dist m C pen A lo k room F d L) {j : Nat} (hj : j < m) (h : up v d F L j ≠ 0) : cnt A lo k j = room j := by
  have h1 := hA.rm j hj
  refine Int.le_antisymm h1 (Int.not_lt.1 fun hc => h ?_)
  have h0 := hv.sl j hj hc
  rcases (up_ge (v := v) (d := d) (F := F) (L := L) j) with ⟨g1, g2, g3⟩
  rcases g3 with e | ⟨hf, e⟩
  · omega
  · have := hD.l1 j hj hf hc
    omega
theorem up_new (hD : Dist m C pen A lo k room F d L) {y : Int} (hy : okX m C (lo + k) y) : L ≤ cst C pen (lo + k) y + tak (up v d F L) y := by
  rcases okX_cases hy with rfl | ⟨z, rfl, hz, hcz⟩
  · have := hD.l0
    rw [cst_n, tak_n]; omega
  · have h1 := hD.d0 z hz hcz
    have := (up_ge (v := v) (d := d) (F := F) (L := L) z).2.1 h1.1
    rw [cst_j, tak_j]; omega
theorem up_at {j : Nat} (hf : F j) (h : v j ≤ L - d j) : up v d F L j = L - d j := by
  unfold up; rw [if_pos ⟨hf, h⟩]

/-- How a lender is reached: by which request, and from which lender. -/
def Tree (m : Nat) (C : Nat → Nat → Int) (A : Nat → Int) (lo k : Nat) (F : Nat → Prop) (d bk by' : Nat → Int) (h : Nat → Nat) (j : Nat) : Prop :=
  (bk j = -1 ∧ by' j = ((lo + k : Nat) : Int) ∧ d j = C (lo + k) j ∧ C (lo + k) j ≠ -1) ∨
  ∃ j' i : Nat, bk j = j' ∧ by' j = i ∧ j' < m ∧ F j' ∧ lo ≤ i ∧ i < lo + k ∧ A i = j' ∧ C i j ≠ -1 ∧ d j = d j' - C i j' + C i j ∧ h j' < h j
/-- On the way back. -/
structure Mid (m : Nat) (C : Nat → Nat → Int) (pen : Int) (A : Nat → Int) (lo k : Nat) (room : Nat → Int) (F : Nat → Prop) (v d : Nat → Int) (L : Int) (h : Nat → Nat) (B : Nat → Int) (x : Int) : Prop where
  ok : ∀ i, lo ≤ i → i < lo + (k + 1) → okX m C i (B i)
  rs : ∀ y, y < m → cnt B lo (k + 1) y + (if x = (y : Int) then 1 else 0) ≤ room y
  sl : ∀ y, y < m → up v d F L y ≠ 0 → cnt B lo (k + 1) y + (if x = (y : Int) then 1 else 0) = room y
  ti : ∀ i, lo ≤ i → i < lo + (k + 1) → (i ≠ lo + k ∨ x = -1) → ∀ y, okX m C i y → cst C pen i (B i) + tak (up v d F L) (B i) ≤ cst C pen i y + tak (up v d F L) y
  br : x ≠ -1 → B (lo + k) = -1
  hx : ∀ j : Nat, x = j → j < m ∧ F j ∧ v j ≤ L - d j
  hh : ∀ j : Nat, x = j → ∀ i, lo ≤ i → i < lo + k → B i ≠ A i → ∀ z : Nat, A i = z → h j ≤ h z
def updA (B : Nat → Int) (i : Nat) (x : Int) (z : Nat) : Int := if z = i then x else B z
theorem cnt_upd {B : Nat → Int} {i lo k y : Nat} {x : Int} (h1 : lo ≤ i) (h2 : i < lo + k) : cnt (updA B i x) lo k y = cnt B lo k y + ((if x = (y : Int) then 1 else 0) - (if B i = (y : Int) then 1 else 0)) := by
  unfold cnt
  rw [sumR_upd h1 h2 (f := fun i => if B i = (y : Int) then 1 else 0) (fun z _ _ hz => by simp [updA, hz])]
  simp [updA]
theorem Mid.step {h : Nat → Nat} {B bk by' : Nat → Int} {j : Nat} (hA : Perm m C A lo k room) (hv : Cert m C pen v A lo k room) (hD : Dist m C pen A lo k room F d L)
    (hM : Mid m C pen A lo k room F v d L h B (j : Int)) (hT : Tree m C A lo k F d bk by' h j) : 0 ≤ by' j ∧ Mid m C pen A lo k room F v d L h (updA B (by' j).toNat (j : Int)) (bk j) := by
  obtain ⟨hj, hf, hvj⟩ := hM.hx j rfl
  have hup := up_at hf hvj
  have hbr := hM.br (by omega)
  rcases hT with ⟨b1, b2, b3, b4⟩ | ⟨j', i, b1, b2, b3, b4, b5, b6, b7, b8, b9, b10⟩
  · rw [b1, b2, Int.toNat_natCast]
    refine ⟨by omega, fun i h1 h2 => ?_, fun y hy => ?_, fun y hy hne => ?_, fun i h1 h2 _ y hy => ?_, fun h => absurd rfl h, fun z hz => by omega, fun z hz => by omega⟩
    · unfold updA
      split
      · rename_i e; subst e; exact okX_j hj b4
      · exact hM.ok i h1 h2
    · have := hM.rs y hy
      rw [cnt_upd (by omega) (by omega), hbr]
      rw [if_neg (show ¬ (-1 : Int) = (y : Int) by omega)]
      omega
    · have := hM.sl y hy hne
      rw [cnt_upd (by omega) (by omega), hbr]
      rw [if_neg (show ¬ (-1 : Int) = (y : Int) by omega)]
      omega
    · unfold updA
      split
      · rename_i e; subst e
        rw [cst_j, tak_j, hup]
        have := up_new (v := v) hD hy
        omega
      · rename_i e
        exact hM.ti i h1 h2 (.inl e) y hy
  · rw [b1, b2, Int.toNat_natCast]
    -- the request has not been moved yet
    have hBi : B i = (j' : Int) := by
      rw [← b7]
      refine Classical.byContradiction fun hc => ?_
      have := hM.hh j rfl i b5 b6 hc j' b7
      omega
    have hir : i ≠ lo + k := by omega
    have old := hv.ti i b5 b6 (j : Int) (okX_j hj b8)
    rw [b7, cst_j, tak_j, cst_j, tak_j] at old
    have hvj' : v j' ≤ L - d j' := by omega
    have hup' := up_at b4 hvj'
    refine ⟨by omega, fun z h1 h2 => ?_, fun y hy => ?_, fun y hy hne => ?_, fun z h1 h2 hz y hy => ?_, fun _ => ?_, fun z hz => ?_, fun z hz w w1 w2 hw u hu => ?_⟩
    · unfold updA
      split
      · rename_i e; subst e; exact okX_j hj b8
      · exact hM.ok z h1 h2
    · have := hM.rs y hy
      rw [cnt_upd (by omega) (by omega), hBi]
      omega
    · have := hM.sl y hy hne
      rw [cnt_upd (by omega) (by omega), hBi]
      omega
    · unfold updA
      split
      · rename_i e; subst e
        have t := up_tight hA hv hD b5 b6 hy
        rw [b7, cst_j, tak_j, hup'] at t
        rw [cst_j, tak_j, hup]
        omega
      · exact hM.ti z h1 h2 (.inl (by omega)) y hy
    · unfold updA
      rw [if_neg (by omega)]; exact hbr
    · obtain rfl : j' = z := by omega
      exact ⟨b3, b4, hvj'⟩
    · obtain rfl : j' = z := by omega
      by_cases hwi : w = i
      · subst hwi
        obtain rfl : j' = u := by omega
        omega
      · have hw' : B w ≠ A w := by
          unfold updA at hw
          rwa [if_neg hwi] at hw
        have := hM.hh j rfl w w1 w2 hw' u hu
        omega
/-- The start of the way back. -/
theorem Mid.start {h : Nat → Nat} {B : Nat → Int} {e out : Int} (hA : Perm m C A lo k room) (hv : Cert m C pen v A lo k room) (hD : Dist m C pen A lo k room F d L)
    (hB : ∀ i, lo ≤ i → i < lo + k → B i = if out = (i : Int) then -1 else A i) (hBr : B (lo + k) = -1)
    (he : (e = -1 ∧ out = ((lo + k : Nat) : Int) ∧ L = pen) ∨ (∃ j : Nat, e = j ∧ j < m ∧ F j ∧ out = -1 ∧ cnt A lo k j < room j ∧ L = d j) ∨ (∃ j i : Nat, e = j ∧ j < m ∧ F j ∧ out = i ∧ lo ≤ i ∧ i < lo + k ∧ A i = j ∧ L = d j - C i j + pen)) : Mid m C pen A lo k room F v d L h B e := by
  have hcnt : ∀ y : Nat, cnt B lo (k + 1) y = cnt B lo k y := fun y => by
    unfold cnt
    rw [sumR_snoc, hBr, if_neg (by omega)]; omega
  have same : (∀ i, lo ≤ i → i < lo + k → B i = A i) → ∀ y : Nat, cnt B lo k y = cnt A lo k y := fun hs y => sumR_congr k lo (fun i a b => by rw [hs i a b])
  have okr : okX m C (lo + k) (B (lo + k)) := .inl hBr
  rcases he with ⟨rfl, rfl, hL⟩ | ⟨j, rfl, hj, hf, rfl, hc, hL⟩ | ⟨j, i, rfl, hj, hf, rfl, i1, i2, ha, hL⟩
  · have hs : ∀ i, lo ≤ i → i < lo + k → B i = A i := fun i a b => by rw [hB i a b, if_neg (by omega)]
    refine ⟨fun i a b => ?_, fun y hy => ?_, fun y hy hne => ?_, fun i a b _ y hy => ?_, fun h => absurd rfl h, fun z hz => by omega, fun z hz => by omega⟩
    · by_cases hi : i = lo + k
      · subst hi; exact okr
      · rw [hs i a (by omega)]; exact hA.ok i a (by omega)
    · have := hA.rm y hy
      rw [hcnt, same hs, if_neg (by omega)]; omega
    · have := up_slack hv hA hD hy hne
      rw [hcnt, same hs, if_neg (by omega)]; omega
    · by_cases hi : i = lo + k
      · subst hi
        have := up_new (v := v) hD hy
        rw [hBr, cst_n, tak_n]; omega
      · rw [hs i a (by omega)]; exact up_tight hA hv hD a (by omega) hy
  · have hs : ∀ i, lo ≤ i → i < lo + k → B i = A i := fun i a b => by rw [hB i a b, if_neg (by omega)]
    have hv0 := hv.sl j hj hc
    refine ⟨fun i a b => ?_, fun y hy => ?_, fun y hy hne => ?_, fun i a b hir y hy => ?_, fun _ => hBr, fun z hz => ?_, fun z hz i a b hne => absurd (hs i a b) hne⟩
    · by_cases hi : i = lo + k
      · subst hi; exact okr
      · rw [hs i a (by omega)]; exact hA.ok i a (by omega)
    · have := hA.rm y hy
      rw [hcnt, same hs]
      by_cases hjy : j = y
      · subst hjy; rw [if_pos rfl]; omega
      · rw [if_neg (by omega)]; omega
    · have := up_slack hv hA hD hy hne
      by_cases hjy : j = y
      · subst hjy; omega
      · rw [hcnt, same hs, if_neg (by omega)]; omega
    · rcases hir with hir | hir
      · rw [hs i a (by omega)]; exact up_tight hA hv hD a (by omega) hy
      · omega
    · obtain rfl : j = z := by omega
      exact ⟨hj, hf, by omega⟩
  · have hBi : B i = -1 := by rw [hB i i1 i2, if_pos rfl]
    have hs : ∀ z, lo ≤ z → z < lo + k → z ≠ i → B z = A z := fun z a b hz => by rw [hB z a b, if_neg (by omega)]
    have hcc : ∀ y : Nat, cnt B lo k y = cnt A lo k y - (if (j : Int) = (y : Int) then 1 else 0) := fun y => by
      unfold cnt
      rw [sumR_upd i1 i2 (f := fun z => if A z = (y : Int) then 1 else 0) (fun z a b hz => by rw [hs z a b hz]), hBi, ha, if_neg (show ¬ (-1 : Int) = (y : Int) by omega)]
      omega
    have oldt := hv.ti i i1 i2 (-1) (.inl rfl)
    rw [ha, cst_j, tak_j, cst_n, tak_n] at oldt
    have hvj : v j ≤ L - d j := by omega
    have hup := up_at hf hvj
    refine ⟨fun z a b => ?_, fun y hy => ?_, fun y hy hne => ?_, fun z a b hir y hy => ?_, fun _ => hBr, fun z hz => ?_, fun z hz w a b hne u hu => ?_⟩
    · by_cases hi : z = lo + k
      · subst hi; exact okr
      · by_cases hzi : z = i
        · subst hzi; exact .inl hBi
        · rw [hs z a (by omega) hzi]; exact hA.ok z a (by omega)
    · have := hA.rm y hy
      rw [hcnt, hcc]; omega
    · have := up_slack hv hA hD hy hne
      rw [hcnt, hcc]; omega
    · rcases hir with hir | hir
      · by_cases hzi : z = i
        · subst hzi
          have t := up_tight hA hv hD i1 i2 hy
          rw [ha, cst_j, tak_j, hup] at t
          rw [hBi, cst_n, tak_n]; omega
        · rw [hs z a (by omega) hzi]; exact up_tight hA hv hD a (by omega) hy
      · omega
    · obtain rfl : j = z := by omega
      exact ⟨hj, hf, hvj⟩
    · obtain rfl : j = z := by omega
      by_cases hwi : w = i
      · subst hwi
        obtain rfl : j = u := by omega
        omega
      · exact absurd (hs w a b hwi) hne
/-- Behind the way back. -/
theorem Mid.done {h : Nat → Nat} {B : Nat → Int} (hv : Cert m C pen v A lo k room) (hM : Mid m C pen A lo k room F v d L h B (-1)) : Perm m C B lo (k + 1) room ∧ Cert m C pen (up v d F L) B lo (k + 1) room := by
  refine ⟨⟨hM.ok, fun j hj => ?_⟩, fun j hj => ?_, fun j hj hc => ?_, fun i a b y hy => hM.ti i a b (.inr rfl) y hy⟩
  · have := hM.rs j hj
    rw [if_neg (by omega)] at this; omega
  · have := hv.nn j hj
    have := (up_ge (v := v) (d := d) (F := F) (L := L) j).1
    omega
  · refine Classical.byContradiction fun hne => ?_
    have := hM.sl j hj hne
    rw [if_neg (by omega)] at this; omega
end
end Go.Proofs.Ythjinjinnklkgaa.Ab
