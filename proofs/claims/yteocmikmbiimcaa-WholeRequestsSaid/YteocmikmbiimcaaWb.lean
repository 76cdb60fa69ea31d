/- Assignments at the least cost, as in chapter 56. Conditions: none. -/
import Derived.Test.YteocmikmbiimcaaWa
set_option maxRecDepth 100000
namespace Go.Proofs.Yteocmikmbiimcaa.Ab
section
section
open Go

/-- The sum over k numbers from lo. -/
def sumR (f : Nat → Int) : Nat → Nat → Int
  | _, 0 => 0
  | lo, k + 1 => f lo + sumR f (lo + 1) k
theorem sumR_congr {f g : Nat → Int} : ∀ (k lo : Nat), (∀ i, lo ≤ i → i < lo + k → f i = g i) → sumR f lo k = sumR g lo k
  | 0, _, _ => rfl
  | k + 1, lo, h => by rw [sumR, sumR, h lo (by omega) (by omega), sumR_congr k (lo + 1) (fun i h1 h2 => h i (by omega) (by omega))]
theorem sumR_le {f g : Nat → Int} : ∀ (k lo : Nat), (∀ i, lo ≤ i → i < lo + k → f i ≤ g i) → sumR f lo k ≤ sumR g lo k
  | 0, _, _ => Int.le_refl _
  | k + 1, lo, h => by
    rw [sumR, sumR]
    have h1 := h lo (by omega) (by omega)
    have h2 := sumR_le k (lo + 1) (fun i h1 h2 => h i (by omega) (by omega))
    omega
theorem sumR_add (f g : Nat → Int) : ∀ (k lo : Nat), sumR (fun i => f i + g i) lo k = sumR f lo k + sumR g lo k
  | 0, _ => rfl
  | k + 1, lo => by rw [sumR, sumR, sumR, sumR_add f g k]; omega
theorem sumR_sub (f g : Nat → Int) : ∀ (k lo : Nat), sumR (fun i => f i - g i) lo k = sumR f lo k - sumR g lo k
  | 0, _ => rfl
  | k + 1, lo => by rw [sumR, sumR, sumR, sumR_sub f g k]; omega
theorem sumR_zero : ∀ (k lo : Nat), sumR (fun _ => 0) lo k = 0
  | 0, _ => rfl
  | k + 1, lo => by rw [sumR, sumR_zero k]; rfl
theorem sumR_snoc (f : Nat → Int) : ∀ (k lo : Nat), sumR f lo (k + 1) = sumR f lo k + f (lo + k)
  | 0, lo => by simp [sumR]
  | k + 1, lo => by
    rw [sumR, sumR_snoc f k (lo + 1), sumR, show lo + 1 + k = lo + (k + 1) by omega]; omega
theorem sumR_nn {f : Nat → Int} : ∀ (k lo : Nat), (∀ i, lo ≤ i → i < lo + k → 0 ≤ f i) → 0 ≤ sumR f lo k := fun k lo h => by
  have := sumR_le k lo h (f := fun _ => 0)
  rwa [sumR_zero] at this
/-- Where a sum of numbers that are not negative is 0, all are. -/
theorem sumR_all0 {f : Nat → Int} : ∀ (k lo : Nat), (∀ i, lo ≤ i → i < lo + k → 0 ≤ f i) → sumR f lo k ≤ 0 → ∀ i, lo ≤ i → i < lo + k → f i = 0
  | 0, lo, _, _, i, h1, h2 => by omega
  | k + 1, lo, h, hs, i, h1, h2 => by
    rw [sumR] at hs
    have a := h lo (by omega) (by omega)
    have b := sumR_nn k (lo + 1) (fun i h1 h2 => h i (by omega) (by omega))
    by_cases hi : i = lo
    · subst hi; omega
    · exact sumR_all0 k (lo + 1) (fun i h1 h2 => h i (by omega) (by omega)) (by omega) i (by omega) (by omega)
theorem sumR_one (x : Int) (j : Nat) : ∀ (k lo : Nat), sumR (fun i => if i = j then x else 0) lo k = if lo ≤ j ∧ j < lo + k then x else 0
  | 0, lo => by rw [if_neg (by omega)]; rfl
  | k + 1, lo => by
    rw [sumR, sumR_one x j k]
    by_cases h : lo = j
    · subst h
      rw [if_pos rfl, if_neg (by omega), if_pos (by omega)]; omega
    · rw [if_neg h]
      by_cases h2 : lo + 1 ≤ j ∧ j < lo + 1 + k
      · rw [if_pos h2, if_pos (by omega)]; omega
      · rw [if_neg h2, if_neg (by omega)]; omega
theorem sumR_swap (f : Nat → Nat → Int) : ∀ (k lo : Nat) (m : Nat), sumR (fun i => sumR (fun j => f i j) 0 m) lo k = sumR (fun j => sumR (fun i => f i j) lo k) 0 m
  | 0, lo, m => by
    simp only [sumR]; exact (sumR_zero m 0).symm
  | k + 1, lo, m => by
    simp only [sumR]
    rw [sumR_swap f k (lo + 1) m, ← sumR_add]
/-- One number is another one. -/
theorem sumR_upd {f g : Nat → Int} {r : Nat} {k lo : Nat} (h1 : lo ≤ r) (h2 : r < lo + k) (h : ∀ i, lo ≤ i → i < lo + k → i ≠ r → g i = f i) : sumR g lo k = sumR f lo k + (g r - f r) := by
  have := sumR_sub g f k lo
  have e : sumR (fun i => g i - f i) lo k = sumR (fun i => if i = r then g r - f r else 0) lo k := sumR_congr k lo (fun i a b => by
    by_cases hi : i = r
    · subst hi; simp
    · rw [if_neg hi, h i a b hi]; omega)
  rw [sumR_one, if_pos ⟨h1, h2⟩] at e
  omega

section
variable (m : Nat) (C : Nat → Nat → Int) (pen : Int)
/-- What a choice costs: nobody, or a lender. -/
def cst (i : Nat) (x : Int) : Int := if x = -1 then pen else C i x.toNat
/-- What a lender takes. -/
def tak (v : Nat → Int) (x : Int) : Int := if x = -1 then 0 else v x.toNat
def okX (i : Nat) (x : Int) : Prop := x = -1 ∨ (0 ≤ x ∧ x < m ∧ C i x.toNat ≠ -1)
/-- How many requests a lender has. -/
def cnt (A : Nat → Int) (lo k j : Nat) : Int := sumR (fun i => if A i = (j : Int) then 1 else 0) lo k
structure Perm (A : Nat → Int) (lo k : Nat) (room : Nat → Int) : Prop where
  ok : ∀ i, lo ≤ i → i < lo + k → okX m C i (A i)
  rm : ∀ j, j < m → cnt A lo k j ≤ room j
def costA (A : Nat → Int) (lo k : Nat) : Int := sumR (fun i => cst C pen i (A i)) lo k
structure Cert (v A : Nat → Int) (lo k : Nat) (room : Nat → Int) : Prop where
  nn : ∀ j, j < m → 0 ≤ v j
  sl : ∀ j, j < m → cnt A lo k j < room j → v j = 0
  ti : ∀ i, lo ≤ i → i < lo + k → ∀ y, okX m C i y → cst C pen i (A i) + tak v (A i) ≤ cst C pen i y + tak v y
end
variable {m : Nat} {C : Nat → Nat → Int} {pen : Int}
theorem cnt_nn {A : Nat → Int} {lo k j : Nat} : 0 ≤ cnt A lo k j := sumR_nn k lo (fun i _ _ => by split <;> omega)
theorem tak_sum {v A : Nat → Int} {room : Nat → Int} {lo k : Nat} (h : Perm m C A lo k room) : sumR (fun i => tak v (A i)) lo k = sumR (fun j => cnt A lo k j * v j) 0 m := by
  have e1 : sumR (fun i => tak v (A i)) lo k = sumR (fun i => sumR (fun j => if A i = (j : Int) then v j else 0) 0 m) lo k := by
    refine sumR_congr k lo (fun i a b => ?_)
    rcases h.ok i a b with hx | ⟨h0, h1, _⟩
    · rw [tak, if_pos hx]
      refine ((sumR_congr m 0 (fun j _ _ => ?_)).trans (sumR_zero m 0)).symm
      rw [hx]; exact if_neg (by omega)
    · rw [tak, if_neg (by omega)]
      have := sumR_one (v (A i).toNat) (A i).toNat m 0
      rw [if_pos (by omega)] at this
      rw [← this]
      refine sumR_congr m 0 (fun j _ _ => ?_)
      by_cases hj : j = (A i).toNat
      · subst hj; rw [if_pos rfl, if_pos (by omega)]
      · rw [if_neg hj, if_neg (by omega)]
  rw [e1, sumR_swap]
  refine sumR_congr m 0 (fun j _ _ => ?_)
  rw [cnt]
  have : ∀ (k lo : Nat), sumR (fun i => if A i = (j : Int) then v j else 0) lo k = sumR (fun i => if A i = (j : Int) then 1 else 0) lo k * v j := by
    intro k
    induction k with
    | zero => intro lo; simp [sumR]
    | succ k ih =>
      intro lo
      rw [sumR, sumR, ih, Int.add_mul]
      split <;> simp
  exact this k lo
theorem room_sum {v A : Nat → Int} {room : Nat → Int} {lo k : Nat} (h : Perm m C A lo k room) (hv : Cert m C pen v A lo k room) : sumR (fun i => tak v (A i)) lo k = sumR (fun j => room j * v j) 0 m := by
  rw [tak_sum h]
  refine sumR_congr m 0 (fun j _ hj => ?_)
  have h1 := h.rm j (by omega)
  by_cases hc : cnt A lo k j < room j
  · rw [hv.sl j (by omega) hc]; simp
  · rw [show cnt A lo k j = room j by omega]
/-- No other assignment costs less than one with a certificate. -/
theorem Cert.least {v A B : Nat → Int} {room : Nat → Int} {lo k : Nat} (hA : Perm m C A lo k room) (hv : Cert m C pen v A lo k room) (hB : Perm m C B lo k room) : costA C pen A lo k ≤ costA C pen B lo k ∧
    (costA C pen B lo k ≤ costA C pen A lo k → Cert m C pen v B lo k room) := by
  have e1 := room_sum hA hv
  have e2 := tak_sum (v := v) hB
  have l1 : 0 ≤ sumR (fun j => room j * v j - cnt B lo k j * v j) 0 m := sumR_nn m 0 (fun j _ hj => by
    rw [← Int.sub_mul]
    have := hB.rm j (by omega)
    exact Int.mul_nonneg (by omega) (hv.nn j (by omega)))
  have l2 : 0 ≤ sumR (fun i => (cst C pen i (B i) + tak v (B i)) - (cst C pen i (A i) + tak v (A i))) lo k := sumR_nn k lo (fun i a b => by
    have := hv.ti i a b (B i) (hB.ok i a b); omega)
  have s1 := sumR_sub (fun j => room j * v j) (fun j => cnt B lo k j * v j) m 0
  have s2 := sumR_sub (fun i => cst C pen i (B i) + tak v (B i)) (fun i => cst C pen i (A i) + tak v (A i)) k lo
  have s3 := sumR_add (fun i => cst C pen i (B i)) (fun i => tak v (B i)) k lo
  have s4 := sumR_add (fun i => cst C pen i (A i)) (fun i => tak v (A i)) k lo
  refine ⟨by unfold costA; omega, fun hle => ?_⟩
  unfold costA at hle
  have z1 := sumR_all0 m 0 (f := fun j => room j * v j - cnt B lo k j * v j) (fun j _ hj => by
    show 0 ≤ room j * v j - cnt B lo k j * v j
    rw [← Int.sub_mul]
    have := hB.rm j (by omega)
    exact Int.mul_nonneg (by omega) (hv.nn j (by omega))) (by omega)
  have z2 := sumR_all0 k lo (f := fun i => (cst C pen i (B i) + tak v (B i)) - (cst C pen i (A i) + tak v (A i))) (fun i a b => by
    have := hv.ti i a b (B i) (hB.ok i a b); omega) (by omega)
  refine ⟨hv.nn, fun j hj hc => ?_, fun i a b y hy => ?_⟩
  · have := z1 j (by omega) (by omega)
    rw [← Int.sub_mul] at this
    rcases Int.mul_eq_zero.1 this with h | h
    · omega
    · exact h
  · have h1 := z2 i a b
    have h2 := hv.ti i a b y hy
    omega
end
section
open Go

/-- Distances at which nothing can be made less, and the least end. -/
structure Dist (m : Nat) (C : Nat → Nat → Int) (pen : Int) (A : Nat → Int) (lo k : Nat) (room : Nat → Int) (F : Nat → Prop) (d : Nat → Int) (L : Int) : Prop where
  d0 : ∀ j, j < m → C (lo + k) j ≠ -1 → F j ∧ d j ≤ C (lo + k) j
  d1 : ∀ j, j < m → F j → ∀ i, lo ≤ i → i < lo + k → A i = (j : Int) → ∀ y, y < m → C i y ≠ -1 → F y ∧ d y ≤ d j - C i j + C i y
  l0 : L ≤ pen
  l1 : ∀ j, j < m → F j → cnt A lo k j < room j → L ≤ d j
  l2 : ∀ j, j < m → F j → ∀ i, lo ≤ i → i < lo + k → A i = (j : Int) → L ≤ d j - C i j + pen
open Classical in
noncomputable def up (v d : Nat → Int) (F : Nat → Prop) (L : Int) (j : Nat) : Int := if F j ∧ v j ≤ L - d j then L - d j else v j
theorem up_ge {v d : Nat → Int} {F : Nat → Prop} {L : Int} (j : Nat) : v j ≤ up v d F L j ∧ (F j → L - d j ≤ up v d F L j) ∧ (up v d F L j = v j ∨ (F j ∧ up v d F L j = L - d j)) := by
  unfold up
  by_cases h : F j ∧ v j ≤ L - d j
  · rw [if_pos h]; exact ⟨h.2, fun _ => Int.le_refl _, .inr ⟨h.1, rfl⟩⟩
  · rw [if_neg h]; exact ⟨Int.le_refl _, fun hf => by have : ¬ v j ≤ L - d j := fun hc => h ⟨hf, hc⟩; omega, .inl rfl⟩
theorem tak_n {v : Nat → Int} : tak v (-1) = 0 := rfl
theorem tak_j {v : Nat → Int} (j : Nat) : tak v (j : Int) = v j := by unfold tak; rw [if_neg (by omega)]; rfl
theorem cst_n {C : Nat → Nat → Int} {pen : Int} (i : Nat) : cst C pen i (-1) = pen := rfl
theorem cst_j {C : Nat → Nat → Int} {pen : Int} (i j : Nat) : cst C pen i (j : Int) = C i j := by unfold cst; rw [if_neg (by omega)]; rfl
theorem okX_cases {m : Nat} {C : Nat → Nat → Int} {i : Nat} {x : Int} (h : okX m C i x) : x = -1 ∨ ∃ j : Nat, x = j ∧ j < m ∧ C i j ≠ -1 := by
  rcases h with h | ⟨h0, h1, h2⟩
  · exact .inl h
  · exact .inr ⟨x.toNat, by omega, by omega, h2⟩
theorem okX_j {m : Nat} {C : Nat → Nat → Int} {i j : Nat} (h : j < m) (h2 : C i j ≠ -1) : okX m C i (j : Int) := .inr ⟨by omega, by omega, by simpa using h2⟩
section
variable {m : Nat} {C : Nat → Nat → Int} {pen : Int} {A : Nat → Int} {lo k : Nat} {room : Nat → Int} {v d : Nat → Int} {F : Nat → Prop} {L : Int}
theorem up_tight (hA : Perm m C A lo k room) (hv : Cert m C pen v A lo k room) (hD : Dist m C pen A lo k room F d L) {i : Nat} (h1 : lo ≤ i) (h2 : i < lo + k) {y : Int} (hy : okX m C i y) :
    cst C pen i (A i) + tak (up v d F L) (A i) ≤ cst C pen i y + tak (up v d F L) y := by
  have old := hv.ti i h1 h2 y hy
  have mono : tak v y ≤ tak (up v d F L) y := by
    rcases okX_cases hy with rfl | ⟨z, rfl, _, _⟩
    · exact Int.le_refl _
    · rw [tak_j, tak_j]; exact (up_ge z).1
  rcases okX_cases (hA.ok i h1 h2) with ha | ⟨j, ha, hj, hc⟩
  · rw [ha, tak_n] at old ⊢; omega
  · rw [ha, tak_j, cst_j] at old ⊢
    rcases (up_ge (v := v) (d := d) (F := F) (L := L) j).2.2 with e | ⟨hf, e⟩
    · rw [e]; omega
    · rw [e]
      rcases okX_cases hy with rfl | ⟨z, rfl, hz, hcz⟩
      · have := hD.l2 j hj hf i h1 h2 ha
        rw [cst_n, tak_n]; omega
      · have := hD.d1 j hj hf i h1 h2 ha z hz hcz
        have := (up_ge (v := v) (d := d) (F := F) (L := L) z).2.1 this.1
        rw [cst_j, tak_j]; omega
theorem up_slack (hv : Cert m C pen v A lo k room) (hA : Perm m C A lo k room) (hD : Dist m C pen A lo k room F d L) {j : Nat} (hj : j < m) (h : up v d F L j ≠ 0) : cnt A lo k j = room j := by
  have h1 := hA.rm j hj
  refine Int.le_antisymm h1 (Int.not_lt.1 fun hc => h ?_)
  have h0 := hv.sl j hj hc
  rcases (up_ge (v := v) (d := d) (F := F) (L := L) j) with ⟨g1, g2, g3⟩
  rcases g3 with e | ⟨hf, e⟩
  · omega
  · have := hD.l1 j hj hf hc
    omega
theorem up_new (hD : Dist m C pen A lo k room F d L) {y : Int} (hy : okX m C (lo + k) y) : L ≤ cst C pen (lo + k) y + tak (up v d F L) y := by
  rcases okX_cases hy with rfl | ⟨z, rfl, hz, hcz⟩
  · have := hD.l0
    rw [cst_n, tak_n]; omega
  · have h1 := hD.d0 z hz hcz
    have := (up_ge (v := v) (d := d) (F := F) (L := L) z).2.1 h1.1
    rw [cst_j, tak_j]; omega
theorem up_at {j : Nat} (hf : F j) (h : v j ≤ L - d j) : up v d F L j = L - d j := by
  unfold up; rw [if_pos ⟨hf, h⟩]

/-- How a lender is reached: by which request, and from which lender. -/
def Tree (m : Nat) (C : Nat → Nat → Int) (A : Nat → Int) (lo k : Nat) (F : Nat → Prop) (d bk by' : Nat → Int) (h : Nat → Nat) (j : Nat) : Prop :=
  (bk j = -1 ∧ by' j = ((lo + k : Nat) : Int) ∧ d j = C (lo + k) j ∧ C (lo + k) j ≠ -1) ∨
  ∃ j' i : Nat, bk j = j' ∧ by' j = i ∧ j' < m ∧ F j' ∧ lo ≤ i ∧ i < lo + k ∧ A i = j' ∧ C i j ≠ -1 ∧ d j = d j' - C i j' + C i j ∧ h j' < h j
/-- On the way back. -/
structure Mid (m : Nat) (C : Nat → Nat → Int) (pen : Int) (A : Nat → Int) (lo k : Nat) (room : Nat → Int) (F : Nat → Prop) (v d : Nat → Int) (L : Int) (h : Nat → Nat) (B : Nat → Int) (x : Int) : Prop where
  ok : ∀ i, lo ≤ i → i < lo + (k + 1) → okX m C i (B i)
  rs : ∀ y, y < m → cnt B lo (k + 1) y + (if x = (y : Int) then 1 else 0) ≤ room y
  sl : ∀ y, y < m → up v d F L y ≠ 0 → cnt B lo (k + 1) y + (if x = (y : Int) then 1 else 0) = room y
  ti : ∀ i, lo ≤ i → i < lo + (k + 1) → (i ≠ lo + k ∨ x = -1) → ∀ y, okX m C i y → cst C pen i (B i) + tak (up v d F L) (B i) ≤ cst C pen i y + tak (up v d F L) y
  br : x ≠ -1 → B (lo + k) = -1
  hx : ∀ j : Nat, x = j → j < m ∧ F j ∧ v j ≤ L - d j
  hh : ∀ j : Nat, x = j → ∀ i, lo ≤ i → i < lo + k → B i ≠ A i → ∀ z : Nat, A i = z → h j ≤ h z
def updA (B : Nat → Int) (i : Nat) (x : Int) (z : Nat) : Int := if z = i then x else B z
theorem cnt_upd {B : Nat → Int} {i lo k y : Nat} {x : Int} (h1 : lo ≤ i) (h2 : i < lo + k) : cnt (updA B i x) lo k y = cnt B lo k y + ((if x = (y : Int) then 1 else 0) - (if B i = (y : Int) then 1 else 0)) := by
  unfold cnt
  rw [sumR_upd h1 h2 (f := fun i => if B i = (y : Int) then 1 else 0) (fun z _ _ hz => by simp [updA, hz])]
  simp [updA]
theorem Mid.step {h : Nat → Nat} {B bk by' : Nat → Int} {j : Nat} (hA : Perm m C A lo k room) (hv : Cert m C pen v A lo k room) (hD : Dist m C pen A lo k room F d L)
    (hM : Mid m C pen A lo k room F v d L h B (j : Int)) (hT : Tree m C A lo k F d bk by' h j) : 0 ≤ by' j ∧ Mid m C pen A lo k room F v d L h (updA B (by' j).toNat (j : Int)) (bk j) := by
  obtain ⟨hj, hf, hvj⟩ := hM.hx j rfl
  have hup := up_at hf hvj
  have hbr := hM.br (by omega)
  rcases hT with ⟨b1, b2, b3, b4⟩ | ⟨j', i, b1, b2, b3, b4, b5, b6, b7, b8, b9, b10⟩
  · rw [b1, b2, Int.toNat_natCast]
    refine ⟨by omega, fun i h1 h2 => ?_, fun y hy => ?_, fun y hy hne => ?_, fun i h1 h2 _ y hy => ?_, fun h => absurd rfl h, fun z hz => by omega, fun z hz => by omega⟩
    · unfold updA
      split
      · rename_i e; subst e; exact okX_j hj b4
      · exact hM.ok i h1 h2
    · have := hM.rs y hy
      rw [cnt_upd (by omega) (by omega), hbr]
      rw [if_neg (show ¬ (-1 : Int) = (y : Int) by omega)]
      omega
    · have := hM.sl y hy hne
      rw [cnt_upd (by omega) (by omega), hbr]
      rw [if_neg (show ¬ (-1 : Int) = (y : Int) by omega)]
      omega
    · unfold updA
      split
      · rename_i e; subst e
        rw [cst_j, tak_j, hup]
        have := up_new (v := v) hD hy
        omega
      · rename_i e
        exact hM.ti i h1 h2 (.inl e) y hy
  · rw [b1, b2, Int.toNat_natCast]
    -- the request has not been moved yet
    have hBi : B i = (j' : Int) := by
      rw [← b7]
      refine Classical.byContradiction fun hc => ?_
      have := hM.hh j rfl i b5 b6 hc j' b7
      omega
    have hir : i ≠ lo + k := by omega
    have old := hv.ti i b5 b6 (j : Int) (okX_j hj b8)
    rw [b7, cst_j, tak_j, cst_j, tak_j] at old
    have hvj' : v j' ≤ L - d j' := by omega
    have hup' := up_at b4 hvj'
    refine ⟨by omega, fun z h1 h2 => ?_, fun y hy => ?_, fun y hy hne => ?_, fun z h1 h2 hz y hy => ?_, fun _ => ?_, fun z hz => ?_, fun z hz w w1 w2 hw u hu => ?_⟩
    · unfold updA
      split
      · rename_i e; subst e; exact okX_j hj b8
      · exact hM.ok z h1 h2
    · have := hM.rs y hy
      rw [cnt_upd (by omega) (by omega), hBi]
      omega
    · have := hM.sl y hy hne
      rw [cnt_upd (by omega) (by omega), hBi]
      omega
    · unfold updA
      split
      · rename_i e; subst e
        have t := up_tight hA hv hD b5 b6 hy
        rw [b7, cst_j, tak_j, hup'] at t
        rw [cst_j, tak_j, hup]
        omega
      · exact hM.ti z h1 h2 (.inl (by omega)) y hy
    · unfold updA
      rw [if_neg (by omega)]; exact hbr
    · obtain rfl : j' = z := by omega
      exact ⟨b3, b4, hvj'⟩
    · obtain rfl : j' = z := by omega
      by_cases hwi : w = i
      · subst hwi
        obtain rfl : j' = u := by omega
        omega
      · have hw' : B w ≠ A w := by
          unfold updA at hw
          rwa [if_neg hwi] at hw
        have := hM.hh j rfl w w1 w2 hw' u hu
        omega
/-- The start of the way back. -/
theorem Mid.start {h : Nat → Nat} {B : Nat → Int} {e out : Int} (hA : Perm m C A lo k room) (hv : Cert m C pen v A lo k room) (hD : Dist m C pen A lo k room F d L)
    (hB : ∀ i, lo ≤ i → i < lo + k → B i = if out = (i : Int) then -1 else A i) (hBr : B (lo + k) = -1)
    (he : (e = -1 ∧ out = ((lo + k : Nat) : Int) ∧ L = pen) ∨ (∃ j : Nat, e = j ∧ j < m ∧ F j ∧ out = -1 ∧ cnt A lo k j < room j ∧ L = d j) ∨ (∃ j i : Nat, e = j ∧ j < m ∧ F j ∧ out = i ∧ lo ≤ i ∧ i < lo + k ∧ A i = j ∧ L = d j - C i j + pen)) : Mid m C pen A lo k room F v d L h B e := by
  have hcnt : ∀ y : Nat, cnt B lo (k + 1) y = cnt B lo k y := fun y => by
    unfold cnt
    rw [sumR_snoc, hBr, if_neg (by omega)]; omega
  have same : (∀ i, lo ≤ i → i < lo + k → B i = A i) → ∀ y : Nat, cnt B lo k y = cnt A lo k y := fun hs y => sumR_congr k lo (fun i a b => by rw [hs i a b])
  have okr : okX m C (lo + k) (B (lo + k)) := .inl hBr
  rcases he with ⟨rfl, rfl, hL⟩ | ⟨j, rfl, hj, hf, rfl, hc, hL⟩ | ⟨j, i, rfl, hj, hf, rfl, i1, i2, ha, hL⟩
  · have hs : ∀ i, lo ≤ i → i < lo + k → B i = A i := fun i a b => by rw [hB i a b, if_neg (by omega)]
    refine ⟨fun i a b => ?_, fun y hy => ?_, fun y hy hne => ?_, fun i a b _ y hy => ?_, fun h => absurd rfl h, fun z hz => by omega, fun z hz => by omega⟩
    · by_cases hi : i = lo + k
      · subst hi; exact okr
      · rw [hs i a (by omega)]; exact hA.ok i a (by omega)
    · have := hA.rm y hy
      rw [hcnt, same hs, if_neg (by omega)]; omega
    · have := up_slack hv hA hD hy hne
      rw [hcnt, same hs, if_neg (by omega)]; omega
    · by_cases hi : i = lo + k
      · subst hi
        have := up_new (v := v) hD hy
        rw [hBr, cst_n, tak_n]; omega
      · rw [hs i a (by omega)]; exact up_tight hA hv hD a (by omega) hy
  · have hs : ∀ i, lo ≤ i → i < lo + k → B i = A i := fun i a b => by rw [hB i a b, if_neg (by omega)]
    have hv0 := hv.sl j hj hc
    refine ⟨fun i a b => ?_, fun y hy => ?_, fun y hy hne => ?_, fun i a b hir y hy => ?_, fun _ => hBr, fun z hz => ?_, fun z hz i a b hne => absurd (hs i a b) hne⟩
    · by_cases hi : i = lo + k
      · subst hi; exact okr
      · rw [hs i a (by omega)]; exact hA.ok i a (by omega)
    · have := hA.rm y hy
      rw [hcnt, same hs]
      by_cases hjy : j = y
      · subst hjy; rw [if_pos rfl]; omega
      · rw [if_neg (by omega)]; omega
    · have := up_slack hv hA hD hy hne
      by_cases hjy : j = y
      · subst hjy; omega
      · rw [hcnt, same hs, if_neg (by omega)]; omega
    · rcases hir with hir | hir
      · rw [hs i a (by omega)]; exact up_tight hA hv hD a (by omega) hy
      · omega
    · obtain rfl : j = z := by omega
      exact ⟨hj, hf, by omega⟩
  · have hBi : B i = -1 := by rw [hB i i1 i2, if_pos rfl]
    have hs : ∀ z, lo ≤ z → z < lo + k → z ≠ i → B z = A z := fun z a b hz => by rw [hB z a b, if_neg (by omega)]
    have hcc : ∀ y : Nat, cnt B lo k y = cnt A lo k y - (if (j : Int) = (y : Int) then 1 else 0) := fun y => by
      unfold cnt
      rw [sumR_upd i1 i2 (f := fun z => if A z = (y : Int) then 1 else 0) (fun z a b hz => by rw [hs z a b hz]), hBi, ha, if_neg (show ¬ (-1 : Int) = (y : Int) by omega)]
      omega
    have oldt := hv.ti i i1 i2 (-1) (.inl rfl)
    rw [ha, cst_j, tak_j, cst_n, tak_n] at oldt
    have hvj : v j ≤ L - d j := by omega
    have hup := up_at hf hvj
    refine ⟨fun z a b => ?_, fun y hy => ?_, fun y hy hne => ?_, fun z a b hir y hy => ?_, fun _ => hBr, fun z hz => ?_, fun z hz w a b hne u hu => ?_⟩
    · by_cases hi : z = lo + k
      · subst hi; exact okr
      · by_cases hzi : z = i
        · subst hzi; exact .inl hBi
        · rw [hs z a (by omega) hzi]; exact hA.ok z a (by omega)
    · have := hA.rm y hy
      rw [hcnt, hcc]; omega
    · have := up_slack hv hA hD hy hne
      rw [hcnt, hcc]; omega
    · rcases hir with hir | hir
      · by_cases hzi : z = i
        · subst hzi
          have t := up_tight hA hv hD i1 i2 hy
          rw [ha, cst_j, tak_j, hup] at t
          rw [hBi, cst_n, tak_n]; omega
        · rw [hs z a (by omega) hzi]; exact up_tight hA hv hD a (by omega) hy
      · omega
    · obtain rfl : j = z := by omega
      exact ⟨hj, hf, hvj⟩
    · obtain rfl : j = z := by omega
      by_cases hwi : w = i
      · subst hwi
        obtain rfl : j = u := by omega
        omega
      · exact absurd (hs w a b hwi) hne
/-- Behind the way back. -/
theorem Mid.done {h : Nat → Nat} {B : Nat → Int} (hv : Cert m C pen v A lo k room) (hM : Mid m C pen A lo k room F v d L h B (-1)) : Perm m C B lo (k + 1) room ∧ Cert m C pen (up v d F L) B lo (k + 1) room := by
  refine ⟨⟨hM.ok, fun j hj => ?_⟩, fun j hj => ?_, fun j hj hc => ?_, fun i a b y hy => hM.ti i a b (.inr rfl) y hy⟩
  · have := hM.rs j hj
    rw [if_neg (by omega)] at this; omega
  · have := hv.nn j hj
    have := (up_ge (v := v) (d := d) (F := F) (L := L) j).1
    omega
  · refine Classical.byContradiction fun hne => ?_
    have := hM.sl j hj hne
    rw [if_neg (by omega)] at this; omega
end
end
section
open Go

abbrev FAR : Int := 1099511627776
abbrev Cf (p : SProblem) (i j : Nat) : Int := (p.fCosts.getD i []).getD j 0
abbrev Af (a : List Int) (i : Nat) : Int := a.getD i (-1)
abbrev gI (l : List Int) (i : Nat) : Int := l.getD i 0
theorem ixA {l : List Int} {i : Nat} (h : i < l.length) : ix l (i : Int) = some (Af l i) := ix_get (-1) h
theorem ixG {l : List Int} {i : Nat} (h : i < l.length) : ix l (i : Int) = some (gI l i) := ix_get 0 h
theorem ixC {p : SProblem} {i : Nat} (h : i < p.fCosts.length) : ix p.fCosts (i : Int) = some (p.fCosts.getD i []) := ix_get [] h
theorem Af_gI {l : List Int} {i : Nat} (h : i < l.length) : Af l i = gI l i := by simp [h]
theorem setG {l : List Int} {i : Nat} {x : Int} (h : i < l.length) : setI l (i : Int) x = some (l.set i x) := by rw [setI_some (by omega) (by omega)]; rfl
theorem gI_set {l : List Int} {i j : Nat} {x : Int} (h : i < l.length) : gI (l.set i x) j = if i = j then x else gI l j := getD_set l i j x 0 h
theorem Af_set {l : List Int} {i j : Nat} {x : Int} (h : i < l.length) : Af (l.set i x) j = if i = j then x else Af l j := getD_set l i j x (-1) h
theorem gI_rep {m j : Nat} {x : Int} (h : j < m) : gI (List.replicate m x) j = x := by simp [h]
theorem fu13 : 1000 < FU := by decide

theorem asg {q : SProblem} {room a : List Int} {lo : Nat} (ha : a.length ≤ 12) (hlo : lo ≤ a.length) (j : Nat) :
    ∃ l, m_route_search_assigned FU ⟨q, room, a, (lo : Int)⟩ (j : Int) = some l ∧ (∀ x ∈ l, ∃ i : Nat, x = i ∧ lo ≤ i ∧ i < a.length ∧ Af a i = j) ∧ (∀ i : Nat, lo ≤ i → i < a.length → Af a i = j → (i : Int) ∈ l) ∧ (l.length : Int) = cnt (Af a) lo (a.length - lo) j := by
  unfold m_route_search_assigned
  obtain ⟨t, h1, h2⟩ := iter_inv (σ := List Int × Int) (f := fun s => m_route_search_assigned_L1 FU ⟨q, room, a, (lo : Int)⟩ (j : Int) s.1 s.2)
    (I := fun k s => ∃ i : Nat, s.2 = i ∧ i + k = a.length ∧ lo ≤ i ∧ s.1.length ≤ i ∧ (∀ x ∈ s.1, ∃ i' : Nat, x = i' ∧ lo ≤ i' ∧ i' < a.length ∧ Af a i' = j) ∧ (∀ i' : Nat, lo ≤ i' → i' < i → Af a i' = j → (i' : Int) ∈ s.1) ∧ (s.1.length : Int) = cnt (Af a) lo (i - lo) j)
    (Q := fun l => (∀ x ∈ l, ∃ i : Nat, x = i ∧ lo ≤ i ∧ i < a.length ∧ Af a i = j) ∧ (∀ i : Nat, lo ≤ i → i < a.length → Af a i = j → (i : Int) ∈ l) ∧ (l.length : Int) = cnt (Af a) lo (a.length - lo) j) (by
      rintro k ⟨l, z⟩ ⟨i, h1, h2, h3, h4, h5, h6, h7⟩
      dsimp only at h1 h4 h5 h6 h7
      subst h1
      simp only [m_route_search_assigned_L1]
      by_cases hk : k = 0
      · right
        have e : i = a.length := by omega
        subst e
        exact ⟨l, by simp, h5, h6, h7⟩
      · left
        have hi : i < a.length := by omega
        simp only [show (i : Int) < a.length by omega, decide_true, if_true]
        rw [ixA hi]
        simp only [Option.bind_some]
        have hc : cnt (Af a) lo (i + 1 - lo) j = cnt (Af a) lo (i - lo) j + (if Af a i = (j : Int) then 1 else 0) := by
          unfold cnt
          rw [show i + 1 - lo = i - lo + 1 by omega, sumR_snoc, show lo + (i - lo) = i by omega]
        by_cases hj : Af a i = (j : Int)
        · simp only [hj, decide_true, if_true]
          rw [app_some (by decide) (by simp; omega)]
          simp only [Option.bind_some]
          rw [wadd1 (show i < 12 by omega) (by decide)]
          refine ⟨_, k - 1, rfl, by omega, i + 1, rfl, by omega, by omega, by simp; omega, fun x hx => ?_, fun z hz hz2 hz3 => ?_, ?_⟩
          · rcases List.mem_append.1 hx with hx | hx
            · exact h5 x hx
            · exact ⟨i, by simpa using hx, h3, hi, hj⟩
          · by_cases hzi : z = i
            · subst hzi; exact List.mem_append.2 (.inr (by simp))
            · exact List.mem_append.2 (.inl (h6 z hz (by omega) hz3))
          · dsimp only
            rw [hc, if_pos hj, List.length_append, List.length_singleton]; omega
        · simp only [hj, decide_false, Bool.false_eq_true, if_false, Option.bind_some]
          rw [wadd1 (show i < 12 by omega) (by decide)]
          refine ⟨_, k - 1, rfl, by omega, i + 1, rfl, by omega, by omega, by dsimp only; omega, h5, fun z hz hz2 hz3 => ?_, ?_⟩
          · by_cases hzi : z = i
            · subst hzi; exact absurd hz3 hj
            · exact h6 z hz (by omega) hz3
          · dsimp only
            rw [hc, if_neg hj]; omega) (a.length - lo) FU ([], (lo : Int)) ⟨lo, rfl, by omega, by omega, by simp, by simp, fun i h1 h2 => by omega, by simp [cnt, sumR]⟩ (by simp only [FU]; omega)
  exact ⟨t, by simp only [h1, Option.bind_some], h2⟩
theorem rep_far : ∀ m : Nat, m < 13 → m_slices_Repeat_int_int FU [1099511627776] (m : Int) = some (List.replicate m 1099511627776) := by decide +kernel
theorem rep_neg : ∀ m : Nat, m < 13 → m_slices_Repeat_int_int FU [-1] (m : Int) = some (List.replicate m (-1)) := by decide +kernel

section
variable {p : SProblem} {room a : List Int} {lo : Nat}
theorem add_init (hv : VP p) {r : Nat} (hr : r < p.fCosts.length) {dist by' : List Int} (hd : dist.length = p.fRoom.length) (hb : by'.length = p.fRoom.length) :
    ∃ t : List Int × List Int, iter FU (fun s => m_route_search_add_L1 FU (r : Int) (p.fCosts.getD r []) s.1 s.2.1 s.2.2) ((0 : Int), dist, by') = some t ∧ t.1.length = p.fRoom.length ∧ t.2.length = p.fRoom.length ∧
      ∀ j, j < p.fRoom.length → (Cf p r j ≠ -1 → gI t.1 j = Cf p r j ∧ gI t.2 j = r) ∧ (Cf p r j = -1 → gI t.1 j = gI dist j) := by
  have hrow := hv.row r hr
  have hm := hv.r
  refine iter_inv (σ := Int × List Int × List Int) (I := fun k s => ∃ i : Nat, s.1 = i ∧ i + k = p.fRoom.length ∧ s.2.1.length = p.fRoom.length ∧ s.2.2.length = p.fRoom.length ∧
      (∀ j, j < i → (Cf p r j ≠ -1 → gI s.2.1 j = Cf p r j ∧ gI s.2.2 j = r) ∧ (Cf p r j = -1 → gI s.2.1 j = gI dist j)) ∧ ∀ j, i ≤ j → gI s.2.1 j = gI dist j)
    (Q := fun t : List Int × List Int => t.1.length = p.fRoom.length ∧ t.2.length = p.fRoom.length ∧ ∀ j, j < p.fRoom.length → (Cf p r j ≠ -1 → gI t.1 j = Cf p r j ∧ gI t.2 j = r) ∧ (Cf p r j = -1 → gI t.1 j = gI dist j)) (by
      rintro k ⟨z, d, b⟩ ⟨i, h1, h2, h3, h4, h5, h6⟩
      dsimp only at h1 h3 h4 h5 h6
      subst h1
      simp only [m_route_search_add_L1]
      by_cases hk : k = 0
      · right
        have e : i = p.fRoom.length := by omega
        refine ⟨(d, b), by rw [decide_eq_false (by omega)]; rfl, h3, h4, fun j hj => h5 j (by omega)⟩
      · left
        have hi : i < (p.fCosts.getD r []).length := by omega
        rw [decide_eq_true (show (i : Int) < ((p.fCosts.getD r []).length : Int) by omega), if_pos rfl, ixG hi]
        simp only [Option.bind_some]
        by_cases hc : gI (p.fCosts.getD r []) i = -1
        · simp only [hc, decide_true, Bool.not_true, Bool.false_eq_true, if_false, Option.bind_some]
          rw [wadd1 (show i < 12 by omega) (by decide)]
          refine ⟨_, k - 1, rfl, by omega, i + 1, rfl, by omega, h3, h4, fun j hj => ?_, fun j hj => h6 j (by omega)⟩
          by_cases hji : j = i
          · subst hji
            exact ⟨fun h => absurd hc h, fun _ => h6 j (Nat.le_refl _)⟩
          · exact h5 j (by omega)
        · simp only [hc, decide_false, Bool.not_false, if_true]
          rw [ixG (by omega), setG (by omega)]
          simp only [Option.bind_some]
          rw [ixG (by omega), setG (by omega)]
          simp only [Option.bind_some]
          rw [wadd1 (show i < 12 by omega) (by decide)]
          refine ⟨_, k - 1, rfl, by omega, i + 1, rfl, by omega, by simp [h3], by simp [h4], fun j hj => ?_, fun j hj => ?_⟩
          · dsimp only
            rw [gI_set (by omega), gI_set (by omega)]
            by_cases hji : i = j
            · subst hji
              rw [if_pos rfl, if_pos rfl]
              exact ⟨fun _ => ⟨rfl, rfl⟩, fun h => absurd h hc⟩
            · rw [if_neg hji, if_neg hji]; exact h5 j (by omega)
          · dsimp only
            rw [gI_set (by omega), if_neg (by omega)]; exact h6 j (by omega)) p.fRoom.length FU ((0 : Int), dist, by') ⟨0, rfl, by omega, hd, hb, fun j hj => by omega, fun j _ => rfl⟩ (by simp only [FU]; omega)

/-- A step by which some distance becomes less. -/
def Imp (p : SProblem) (a : List Int) (lo : Nat) (dist by' bk : List Int) (u : List Int × List Int × List Int) : Prop :=
  ∃ j i y : Nat, j < p.fRoom.length ∧ gI dist j < FAR ∧ lo ≤ i ∧ i < a.length ∧ Af a i = j ∧ y < p.fRoom.length ∧ Cf p i y ≠ -1 ∧ gI dist j - Cf p i j + Cf p i y < gI dist y ∧
    u = (dist.set y (gI dist j - Cf p i j + Cf p i y), by'.set y (i : Int), bk.set y (j : Int))
variable (dist by' bk : List Int)
structure Lens (p : SProblem) (dist by' bk : List Int) : Prop where
  d : dist.length = p.fRoom.length
  b : by'.length = p.fRoom.length
  k : bk.length = p.fRoom.length
  r : ∀ j, j < p.fRoom.length → -1000000 ≤ gI dist j ∧ gI dist j ≤ FAR
variable {dist by' bk : List Int}
theorem add_L5 (hv : VP p) (hl : Lens p dist by' bk) (ha : a.length = p.fCosts.length) {j i : Nat} (hj : j < p.fRoom.length) (hf : gI dist j < FAR) (h1 : lo ≤ i) (h2 : i < a.length) (h3 : Af a i = j) :
    ∃ t, iter FU (fun s => m_route_search_add_L5 FU ⟨p, room, a, (lo : Int)⟩ dist by' bk (j : Int) (i : Int) (p.fCosts.getD i []) s) (0 : Int) = some t ∧
      Sum.elim (Imp p a lo dist by' bk) (fun _ => ∀ y, y < p.fRoom.length → Cf p i y ≠ -1 → gI dist y ≤ gI dist j - Cf p i j + Cf p i y) t := by
  have hrow := hv.row i (by omega)
  have hm := hv.r
  have hcj : -1 ≤ gI (p.fCosts.getD i []) j ∧ gI (p.fCosts.getD i []) j ≤ 10000 := hv.co i j (by omega) hj
  have hdj := hl.r j hj
  refine iter_inv (σ := Int) (I := fun k s => ∃ y : Nat, s = y ∧ y + k = p.fRoom.length ∧ ∀ z, z < y → Cf p i z ≠ -1 → gI dist z ≤ gI dist j - Cf p i j + Cf p i z)
    (Q := fun t => Sum.elim (Imp p a lo dist by' bk) (fun _ => ∀ y, y < p.fRoom.length → Cf p i y ≠ -1 → gI dist y ≤ gI dist j - Cf p i j + Cf p i y) t) (by
      rintro k s ⟨y, rfl, g1, g2⟩
      simp only [m_route_search_add_L5]
      by_cases hk : k = 0
      · right
        refine ⟨.inr (), by rw [decide_eq_false (by omega)]; rfl, fun z hz => g2 z (by omega)⟩
      · have hy : y < (p.fCosts.getD i []).length := by omega
        have hcy : -1 ≤ gI (p.fCosts.getD i []) y ∧ gI (p.fCosts.getD i []) y ≤ 10000 := hv.co i y (by omega) (by omega)
        have hdy := hl.r y (by omega)
        rw [decide_eq_true (show (y : Int) < ((p.fCosts.getD i []).length : Int) by omega), if_pos rfl, ixG hy]
        simp only [Option.bind_some]
        by_cases hc : gI (p.fCosts.getD i []) y = -1
        · left
          simp only [hc, decide_true, Bool.not_true, Bool.false_eq_true, if_false, Option.bind_some, Bool.false_and]
          rw [wadd1 (show y < 12 by omega) (by decide)]
          refine ⟨_, k - 1, rfl, by omega, y + 1, rfl, by omega, fun z hz hcz => ?_⟩
          by_cases hzy : z = y
          · subst hzy; exact absurd hc hcz
          · exact g2 z (by omega) hcz
        · simp only [hc, decide_false, Bool.not_false, if_true, Bool.true_and]
          rw [ixG (show j < dist.length by rw [hl.d]; exact hj), ixC (show i < p.fCosts.length by omega)]
          simp only [Option.bind_some]
          rw [ixG (show j < (p.fCosts.getD i []).length by omega), ixG (show y < dist.length by rw [hl.d]; omega)]
          simp only [Option.bind_some]
          rw [w64 (x := gI dist j - gI (p.fCosts.getD i []) j) (by dsimp only [FAR] at *; omega) (by dsimp only [FAR] at *; omega), w64 (by dsimp only [FAR] at *; omega) (by dsimp only [FAR] at *; omega)]
          by_cases hlt : gI dist j - gI (p.fCosts.getD i []) j + gI (p.fCosts.getD i []) y < gI dist y
          · right
            simp only [hlt, decide_true, if_true]
            rw [setG (by rw [hl.d]; omega), ixG (by rw [hl.b]; omega)]
            simp only [Option.bind_some]
            rw [setG (by rw [hl.b]; omega), ixG (by rw [hl.k]; omega)]
            simp only [Option.bind_some]
            rw [setG (by rw [hl.k]; omega)]
            exact ⟨_, rfl, j, i, y, hj, hf, h1, h2, h3, by omega, hc, hlt, rfl⟩
          · left
            simp only [hlt, decide_false, Bool.false_eq_true, if_false]
            rw [wadd1 (show y < 12 by omega) (by decide)]
            refine ⟨_, k - 1, rfl, by omega, y + 1, rfl, by omega, fun z hz hcz => ?_⟩
            by_cases hzy : z = y
            · subst hzy; exact Int.not_lt.1 hlt
            · exact g2 z (by omega) hcz) p.fRoom.length FU 0 ⟨0, rfl, by omega, fun z hz => by omega⟩ (by simp only [FU]; omega)
theorem add_L4 (hv : VP p) (hl : Lens p dist by' bk) (ha : a.length = p.fCosts.length) {j : Nat} (hj : j < p.fRoom.length) (hf : gI dist j < FAR) {l : List Int} (hll : l.length ≤ 12) (hmem : ∀ x ∈ l, ∃ i : Nat, x = i ∧ lo ≤ i ∧ i < a.length ∧ Af a i = j) :
    ∃ t, iter FU (fun s => m_route_search_add_L4 FU ⟨p, room, a, (lo : Int)⟩ dist by' bk (j : Int) l s) (0 : Int) = some t ∧
      Sum.elim (Imp p a lo dist by' bk) (fun _ => ∀ i : Nat, (i : Int) ∈ l → ∀ y, y < p.fRoom.length → Cf p i y ≠ -1 → gI dist y ≤ gI dist j - Cf p i j + Cf p i y) t := by
  refine iter_inv (σ := Int) (I := fun k s => ∃ q : Nat, s = q ∧ q + k = l.length ∧ ∀ z : Nat, z < q → ∀ i : Nat, gI l z = i → ∀ y, y < p.fRoom.length → Cf p i y ≠ -1 → gI dist y ≤ gI dist j - Cf p i j + Cf p i y)
    (Q := fun t => Sum.elim (Imp p a lo dist by' bk) (fun _ => ∀ i : Nat, (i : Int) ∈ l → ∀ y, y < p.fRoom.length → Cf p i y ≠ -1 → gI dist y ≤ gI dist j - Cf p i j + Cf p i y) t) (by
      rintro k s ⟨q, rfl, g1, g2⟩
      simp only [m_route_search_add_L4]
      by_cases hk : k = 0
      · right
        refine ⟨.inr (), by rw [decide_eq_false (by omega)]; rfl, fun i hi => ?_⟩
        obtain ⟨z, hz, hzi⟩ := List.getElem_of_mem hi
        exact g2 z (by omega) i (by simp [hz, hzi])
      · have hq : q < l.length := by omega
        obtain ⟨i, e, i1, i2, i3⟩ := hmem (gI l q) (by simp [hq])
        rw [decide_eq_true (show (q : Int) < (l.length : Int) by omega), if_pos rfl, ixG hq, Option.bind_some, e, ixC (show i < p.fCosts.length by omega), Option.bind_some]
        obtain ⟨t, t1, t2⟩ := add_L5 (room := room) hv hl ha hj hf i1 i2 i3
        rw [t1, Option.bind_some]
        cases t with
        | inl u => exact .inr ⟨.inl u, rfl, t2⟩
        | inr u =>
          left
          dsimp only
          rw [wadd1 (show q < 12 by omega) (by decide)]
          refine ⟨_, k - 1, rfl, by omega, q + 1, rfl, by omega, fun z hz w hw => ?_⟩
          by_cases hzq : z = q
          · subst hzq
            rw [e] at hw
            obtain rfl : i = w := by omega
            exact t2
          · exact g2 z (by omega) w hw) l.length FU 0 ⟨0, rfl, by omega, fun z hz => by omega⟩ (by simp only [FU]; omega)
theorem add_L3 (hv : VP p) (hl : Lens p dist by' bk) (ha : a.length = p.fCosts.length) (hlo : lo ≤ a.length) (hr : room.length = p.fRoom.length) :
    ∃ t, iter FU (fun s => m_route_search_add_L3 FU ⟨p, room, a, (lo : Int)⟩ dist by' bk s) (0 : Int) = some t ∧
      Sum.elim (Imp p a lo dist by' bk) (fun _ => ∀ j, j < p.fRoom.length → gI dist j < FAR → ∀ i : Nat, lo ≤ i → i < a.length → Af a i = j → ∀ y, y < p.fRoom.length → Cf p i y ≠ -1 → gI dist y ≤ gI dist j - Cf p i j + Cf p i y) t := by
  have hm := hv.r
  have hc := hv.c
  refine iter_inv (σ := Int) (I := fun k s => ∃ q : Nat, s = q ∧ q + k = p.fRoom.length ∧ ∀ j, j < q → gI dist j < FAR → ∀ i : Nat, lo ≤ i → i < a.length → Af a i = j → ∀ y, y < p.fRoom.length → Cf p i y ≠ -1 → gI dist y ≤ gI dist j - Cf p i j + Cf p i y)
    (Q := fun t => Sum.elim (Imp p a lo dist by' bk) (fun _ => ∀ j, j < p.fRoom.length → gI dist j < FAR → ∀ i : Nat, lo ≤ i → i < a.length → Af a i = j → ∀ y, y < p.fRoom.length → Cf p i y ≠ -1 → gI dist y ≤ gI dist j - Cf p i j + Cf p i y) t) (by
      rintro k s ⟨q, rfl, g1, g2⟩
      simp only [m_route_search_add_L3]
      by_cases hk : k = 0
      · right
        exact ⟨.inr (), by rw [decide_eq_false (by omega)]; rfl, fun j hj => g2 j (by omega)⟩
      · have hq : q < p.fRoom.length := by omega
        rw [decide_eq_true (show (q : Int) < (room.length : Int) by omega), if_pos rfl, ixG (by rw [hl.d]; exact hq)]
        simp only [Option.bind_some]
        by_cases hf : FAR ≤ gI dist q
        · left
          simp only [hf, decide_true, if_true, Option.bind_some]
          rw [wadd1 (show q < 12 by omega) (by decide)]
          refine ⟨_, k - 1, rfl, by omega, q + 1, rfl, by omega, fun j hj hjf => ?_⟩
          by_cases hjq : j = q
          · subst hjq; omega
          · exact g2 j (by omega) hjf
        · simp only [hf, decide_false, Bool.false_eq_true, if_false]
          obtain ⟨l, l1, l2, l3, l4⟩ := asg (q := p) (room := room) (show a.length ≤ 12 by omega) hlo q
          have hll : l.length ≤ 12 := by
            have : cnt (Af a) lo (a.length - lo) q ≤ 12 := by
              have := sumR_le (a.length - lo) lo (f := fun i => if Af a i = (q : Int) then 1 else 0) (g := fun _ => 1) (fun i _ _ => by split <;> omega)
              have e : ∀ (k lo : Nat), sumR (fun _ => 1) lo k = k := by
                intro k
                induction k with
                | zero => intro lo; rfl
                | succ k ih => intro lo; rw [sumR, ih]; omega
              rw [e] at this
              unfold cnt; omega
            omega
          rw [show (⟨(⟨p.fCosts, p.fRoom, p.fPenalty⟩ : SProblem), room, a, (lo : Int)⟩ : Ssearch) = ⟨p, room, a, (lo : Int)⟩ from rfl, l1, Option.bind_some]
          obtain ⟨t, t1, t2⟩ := add_L4 (room := room) hv hl ha hq (by omega) hll l2
          rw [t1, Option.bind_some]
          cases t with
          | inl u => exact .inr ⟨.inl u, rfl, t2⟩
          | inr u =>
            left
            simp only [Option.bind_some]
            rw [wadd1 (show q < 12 by omega) (by decide)]
            refine ⟨_, k - 1, rfl, by omega, q + 1, rfl, by omega, fun j hj hjf i i1 i2 i3 => ?_⟩
            by_cases hjq : j = q
            · subst hjq
              exact t2 i (l3 i i1 i2 i3)
            · exact g2 j (by omega) hjf i i1 i2 i3) p.fRoom.length FU 0 ⟨0, rfl, by omega, fun z hz => by omega⟩ (by simp only [FU]; omega)
end
end
end
section
open Go

/-- How many steps back the first lender is. -/
inductive RootN (bk : List Int) : Nat → Nat → Prop
  | root {j : Nat} : gI bk j = -1 → RootN bk j 0
  | step {j j' n : Nat} : gI bk j = (j' : Int) → RootN bk j' n → RootN bk j (n + 1)
theorem RootN.uniq {bk : List Int} {j n n' : Nat} (h : RootN bk j n) (h' : RootN bk j n') : n = n' := by
  induction h generalizing n' with
  | root e =>
    cases h' with
    | root => rfl
    | step e' _ => rw [e] at e'; omega
  | step e _ ih =>
    cases h' with
    | root e' => rw [e] at e'; omega
    | step e' h' =>
      rw [e] at e'
      have : _ = _ := Int.ofNat_inj.1 e'
      subst this
      rw [ih h']
theorem nodup_len : ∀ (m : Nat) (l : List Nat), l.Nodup → (∀ x ∈ l, x < m) → l.length ≤ m
  | 0, l, _, h => by
    cases l with
    | nil => simp
    | cons x l => exact absurd (h x (by simp)) (by omega)
  | m + 1, l, hn, h => by
    by_cases hm : m ∈ l
    · have h1 := nodup_len m (l.erase m) (hn.erase m) (fun x hx => by
        have := (List.Nodup.mem_erase_iff hn).1 hx
        have := h x this.2
        omega)
      rw [List.length_erase_of_mem hm] at h1
      omega
    · have := nodup_len m l hn (fun x hx => by
        have := h x hx
        have : x ≠ m := fun e => hm (e ▸ hx)
        omega)
      omega
theorem RootN.list {bk : List Int} {m : Nat} {F : Nat → Prop} (hc : ∀ j, F j → j < m ∧ ∀ j' : Nat, gI bk j = j' → F j') {j n : Nat} (h : RootN bk j n) (hf : F j) : ∃ L : List Nat, L.length = n + 1 ∧ L.Nodup ∧ (∀ x ∈ L, x < m) ∧ ∀ x ∈ L, ∃ d, d ≤ n ∧ RootN bk x d := by
  induction h with
  | @root j e => exact ⟨[j], rfl, by simp, by simp [(hc j hf).1], by simp; exact .root e⟩
  | @step j j' n e h ih =>
    obtain ⟨L, l1, l2, l3, l4⟩ := ih ((hc j hf).2 j' e)
    refine ⟨j :: L, by simp [l1], List.nodup_cons.2 ⟨fun hm => ?_, l2⟩, ?_, ?_⟩
    · obtain ⟨d, d1, d2⟩ := l4 j hm
      have := d2.uniq (.step e h)
      omega
    · intro x hx
      rcases List.mem_cons.1 hx with rfl | hx
      · exact (hc _ hf).1
      · exact l3 x hx
    · intro x hx
      rcases List.mem_cons.1 hx with rfl | hx
      · exact ⟨n + 1, Nat.le_refl _, .step e h⟩
      · obtain ⟨d, d1, d2⟩ := l4 x hx
        exact ⟨d, by omega, d2⟩
open Classical in
noncomputable def hgt (bk : List Int) (j : Nat) : Nat := if h : ∃ n, RootN bk j n then h.choose else 0
theorem hgt_eq {bk : List Int} {j n : Nat} (h : RootN bk j n) : hgt bk j = n := by
  unfold hgt
  have hx : ∃ n, RootN bk j n := ⟨n, h⟩
  rw [dif_pos hx]
  exact hx.choose_spec.uniq h

section
variable {p : SProblem} {room a : List Int} {lo k : Nat} {v : Nat → Int}
def nf (p : SProblem) (dist : List Int) : Int := sumR (fun j => if gI dist j < FAR then 1 else 0) 0 p.fRoom.length
def Edge (p : SProblem) (a : List Int) (lo k : Nat) (dist by' bk : List Int) (j : Nat) : Prop :=
  (gI bk j = -1 ∧ gI by' j = ((lo + k : Nat) : Int) ∧ gI dist j = Cf p (lo + k) j ∧ Cf p (lo + k) j ≠ -1) ∨
  ∃ j' i : Nat, gI bk j = j' ∧ gI by' j = i ∧ j' < p.fRoom.length ∧ gI dist j' < FAR ∧ lo ≤ i ∧ i < lo + k ∧ Af a i = j' ∧ Cf p i j ≠ -1 ∧ gI dist j' - Cf p i j' + Cf p i j ≤ gI dist j
/-- What holds between two steps of the search. -/
structure RI (p : SProblem) (a : List Int) (lo k : Nat) (v : Nat → Int) (dist by' bk : List Int) : Prop where
  ln : Lens p dist by' bk
  d0 : ∀ j, j < p.fRoom.length → Cf p (lo + k) j ≠ -1 → gI dist j ≤ Cf p (lo + k) j
  nn : ∀ j, j < p.fRoom.length → 0 ≤ gI dist j + v j
  ub : ∀ j, j < p.fRoom.length → gI dist j < FAR → gI dist j ≤ 10000 * nf p dist
  rt : ∀ j, j < p.fRoom.length → gI dist j < FAR → ∃ n, RootN bk j n
  ed : ∀ j, j < p.fRoom.length → gI dist j < FAR → Edge p a lo k dist by' bk j
/-- What the search is about. -/
structure Sit (p : SProblem) (room a : List Int) (lo k : Nat) (v : Nat → Int) : Prop where
  vp : VP p
  rl : room.length = p.fRoom.length
  al : a.length = p.fCosts.length
  lk : lo + k < a.length
  pm : Perm p.fRoom.length (Cf p) (Af a) lo k (gI room)
  ct : Cert p.fRoom.length (Cf p) p.fPenalty v (Af a) lo k (gI room)
  vb : ∀ j, j < p.fRoom.length → v j ≤ 1000000
  rest : ∀ i, lo + k ≤ i → i < a.length → Af a i = -1
theorem Sit.tight (hS : Sit p room a lo k v) {i j y : Nat} (h1 : lo ≤ i) (h2 : i < lo + k) (hi : Af a i = (j : Int)) (hy : y < p.fRoom.length) (hc : Cf p i y ≠ -1) : Cf p i j + v j ≤ Cf p i y + v y ∧ 0 ≤ Cf p i j ∧ j < p.fRoom.length := by
  have h := hS.ct.ti i h1 h2 (y : Int) (okX_j hy hc)
  rw [hi, cst_j, tak_j, cst_j, tak_j] at h
  rcases okX_cases (hS.pm.ok i h1 h2) with e | ⟨z, e, hz, hcz⟩
  · rw [hi] at e; omega
  · rw [hi] at e
    obtain rfl : j = z := by omega
    have := hS.vp.co i j (by have := hS.lk; have := hS.al; omega) hz
    refine ⟨h, ?_, hz⟩
    unfold Cf at hcz ⊢
    omega
variable {dist by' bk : List Int}
theorem RI.step (hS : Sit p room a lo k v) (hR : RI p a lo k v dist by' bk) {u : List Int × List Int × List Int} (hI : Imp p a lo dist by' bk u) :
    RI p a lo k v u.1 u.2.1 u.2.2 ∧ sumR (fun j => gI u.1 j + v j) 0 p.fRoom.length < sumR (fun j => gI dist j + v j) 0 p.fRoom.length := by
  obtain ⟨j, i, y, hj, hf, i1, i2, hij, hy, hcy, hlt, rfl⟩ := hI
  have i3 : i < lo + k := by
    refine Nat.lt_of_not_le fun hle => ?_
    have := hS.rest i hle i2
    rw [hij] at this; omega
  obtain ⟨ht, hcj, _⟩ := hS.tight i1 i3 hij hy hcy
  have hdl := hR.ln.d
  have hbl := hR.ln.b
  have hkl := hR.ln.k
  have hnj := hR.nn j hj
  have hry := hR.ln.r y hy
  have hvy := hS.vb y hy
  have hci := hS.vp.co i y (by have := hS.al; omega) hy
  have hci' : Cf p i y ≤ 10000 := hci.2
  have hc0 : 0 ≤ Cf p i y := by
    have := hci.1
    unfold Cf at hcy ⊢
    omega
  have hjy : j ≠ y := fun e => by subst e; omega
  generalize hw : gI dist j - Cf p i j + Cf p i y = w at *
  have gd : ∀ z, gI (dist.set y w) z = if y = z then w else gI dist z := fun z => gI_set (by omega)
  have gb : ∀ z, gI (by'.set y (i : Int)) z = if y = z then (i : Int) else gI by' z := fun z => gI_set (by omega)
  have gk : ∀ z, gI (bk.set y (j : Int)) z = if y = z then (j : Int) else gI bk z := fun z => gI_set (by omega)
  have hwF : w < FAR := by omega
  -- how many are reached
  have hnf : nf p (dist.set y w) = nf p dist + (if gI dist y < FAR then 0 else 1) := by
    unfold nf
    rw [sumR_upd (r := y) (by omega) (by omega) (f := fun z => if gI dist z < FAR then 1 else 0) (fun z _ _ hz => by rw [gd, if_neg (Ne.symm hz)])]
    rw [gd, if_pos rfl, if_pos hwF]
    split <;> omega
  have hsum : sumR (fun z => gI (dist.set y w) z + v z) 0 p.fRoom.length = sumR (fun z => gI dist z + v z) 0 p.fRoom.length + ((w + v y) - (gI dist y + v y)) := by
    rw [sumR_upd (r := y) (by omega) (by omega) (f := fun z => gI dist z + v z) (fun z _ _ hz => by rw [gd, if_neg (Ne.symm hz)])]
    rw [gd, if_pos rfl]
  -- the way back from j does not come to y
  have avoid : ∀ x n, RootN bk x n → x < p.fRoom.length → gI dist x < FAR → gI dist x + v x < gI dist y + v y → ∃ n', RootN (bk.set y (j : Int)) x n' := by
    intro x n hx
    induction hx with
    | @root x e =>
      intro _ _ hl
      have hxy : y ≠ x := fun e => by subst e; omega
      exact ⟨0, .root (by rw [gk, if_neg hxy]; exact e)⟩
    | @step x x' n e _ ih =>
      intro hx hfx hl
      have hxy : y ≠ x := fun e => by subst e; omega
      rcases hR.ed x hx hfx with ⟨b1, _⟩ | ⟨j', i', b1, b2, b3, b4, b5, b6, b7, b8, b9⟩
      · rw [e] at b1; omega
      · obtain rfl : x' = j' := by rw [e] at b1; omega
        have t := (hS.tight b5 b6 b7 hx b8).1
        obtain ⟨n', h'⟩ := ih b3 b4 (by omega)
        exact ⟨n' + 1, .step (by rw [gk, if_neg hxy]; exact e) h'⟩
  obtain ⟨nj, hnjr⟩ := hR.rt j hj hf
  obtain ⟨nj', hj'⟩ := avoid j nj hnjr hj hf (by omega)
  have back : ∀ x n, RootN bk x n → ∃ n', RootN (bk.set y (j : Int)) x n' := by
    intro x n hx
    induction hx with
    | @root x e =>
      by_cases hxy : y = x
      · subst hxy; exact ⟨_, .step (by rw [gk, if_pos rfl]) hj'⟩
      · exact ⟨0, .root (by rw [gk, if_neg hxy]; exact e)⟩
    | @step x x' n e _ ih =>
      by_cases hxy : y = x
      · subst hxy; exact ⟨_, .step (by rw [gk, if_pos rfl]) hj'⟩
      · obtain ⟨n', h'⟩ := ih
        exact ⟨n' + 1, .step (by rw [gk, if_neg hxy]; exact e) h'⟩
  refine ⟨⟨⟨by simp [hdl], by simp [hbl], by simp [hkl], fun z hz => ?_⟩, fun z hz hcz => ?_, fun z hz => ?_, fun z hz hfz => ?_, fun z hz hfz => ?_, fun z hz hfz => ?_⟩, by dsimp only; rw [hsum]; omega⟩
  · rw [gd]
    split
    · omega
    · exact hR.ln.r z hz
  · have := hR.d0 z hz hcz
    dsimp only
    rw [gd]
    split
    · rename_i e; subst e; omega
    · exact this
  · dsimp only
    rw [gd]
    split
    · rename_i e; subst e; omega
    · exact hR.nn z hz
  · dsimp only at hfz ⊢
    rw [hnf]
    rw [gd] at hfz ⊢
    have hub := hR.ub j hj hf
    by_cases hyz : y = z
    · subst hyz
      rw [if_pos rfl]
      by_cases hfy : gI dist y < FAR
      · have := hR.ub y hy hfy
        rw [if_pos hfy]; omega
      · rw [if_neg hfy]; omega
    · rw [if_neg hyz] at hfz ⊢
      have := hR.ub z hz hfz
      split <;> omega
  · dsimp only at hfz ⊢
    rw [gd] at hfz
    by_cases hyz : y = z
    · subst hyz; exact ⟨_, .step (by rw [gk, if_pos rfl]) hj'⟩
    · rw [if_neg hyz] at hfz
      obtain ⟨n, hn⟩ := hR.rt z hz hfz
      exact back z n hn
  · dsimp only at hfz ⊢
    rw [gd] at hfz
    by_cases hyz : y = z
    · subst hyz
      right
      refine ⟨j, i, by rw [gk, if_pos rfl], by rw [gb, if_pos rfl], hj, by rw [gd, if_neg (Ne.symm hjy)]; exact hf, i1, i3, hij, hcy, ?_⟩
      rw [gd, gd, if_pos rfl, if_neg (Ne.symm hjy), hw]; exact Int.le_refl _
    · rw [if_neg hyz] at hfz
      rcases hR.ed z hz hfz with ⟨b1, b2, b3, b4⟩ | ⟨j', i', b1, b2, b3, b4, b5, b6, b7, b8, b9⟩
      · left
        exact ⟨by rw [gk, if_neg hyz]; exact b1, by rw [gb, if_neg hyz]; exact b2, by rw [gd, if_neg hyz]; exact b3, b4⟩
      · right
        refine ⟨j', i', by rw [gk, if_neg hyz]; exact b1, by rw [gb, if_neg hyz]; exact b2, b3, ?_, b5, b6, b7, b8, ?_⟩
        · rw [gd]; split
          · exact hwF
          · exact b4
        · rw [gd, gd, if_neg hyz]
          by_cases hyj : y = j'
          · subst hyj; rw [if_pos rfl]; omega
          · rw [if_neg hyj]; exact b9
/-- The search ends, and then nothing can be made less. -/
theorem relax_ends (hS : Sit p room a lo k v) (hR : RI p a lo k v dist by' bk) :
    ∃ t : List Int × List Int × List Int, iter FU (fun s => m_route_search_add_L2 FU ⟨p, room, a, (lo : Int)⟩ s.1 s.2.1 s.2.2) (dist, by', bk) = some t ∧ RI p a lo k v t.1 t.2.1 t.2.2 ∧
      ∀ j, j < p.fRoom.length → gI t.1 j < FAR → ∀ i : Nat, lo ≤ i → i < a.length → Af a i = j → ∀ y, y < p.fRoom.length → Cf p i y ≠ -1 → gI t.1 y ≤ gI t.1 j - Cf p i j + Cf p i y := by
  have hm := hS.vp.r
  have bnd : ∀ d b k' : List Int, RI p a lo k v d b k' → 0 ≤ sumR (fun j => gI d j + v j) 0 p.fRoom.length ∧ sumR (fun j => gI d j + v j) 0 p.fRoom.length ≤ 2199023255552 * p.fRoom.length := fun d b k' h => by
    refine ⟨sumR_nn _ _ (fun j _ hj => h.nn j (by omega)), ?_⟩
    have := sumR_le p.fRoom.length 0 (f := fun j => gI d j + v j) (g := fun _ => 2199023255552) (fun j _ hj => by
      have := h.ln.r j (by omega)
      have := hS.vb j (by omega)
      dsimp only [FAR] at *
      omega)
    have e : ∀ (k lo : Nat), sumR (fun _ => (2199023255552 : Int)) lo k = 2199023255552 * k := by
      intro k
      induction k with
      | zero => intro lo; rfl
      | succ k ih => intro lo; rw [sumR, ih]; omega
    rw [e] at this
    exact this
  have b0 := bnd _ _ _ hR
  refine iter_inv (σ := List Int × List Int × List Int) (I := fun kk s => RI p a lo k v s.1 s.2.1 s.2.2 ∧ (kk : Int) = sumR (fun j => gI s.1 j + v j) 0 p.fRoom.length)
    (Q := fun t : List Int × List Int × List Int => RI p a lo k v t.1 t.2.1 t.2.2 ∧ ∀ j, j < p.fRoom.length → gI t.1 j < FAR → ∀ i : Nat, lo ≤ i → i < a.length → Af a i = j → ∀ y, y < p.fRoom.length → Cf p i y ≠ -1 → gI t.1 y ≤ gI t.1 j - Cf p i j + Cf p i y) (by
      rintro kk ⟨d, b, bk'⟩ ⟨h1, h2⟩
      dsimp only at h1 h2
      simp only [m_route_search_add_L2]
      obtain ⟨t, t1, t2⟩ := add_L3 (room := room) hS.vp h1.ln hS.al (show lo ≤ a.length by have := hS.lk; omega) hS.rl
      rw [t1, Option.bind_some]
      cases t with
      | inl u =>
        left
        obtain ⟨r1, r2⟩ := h1.step hS t2
        have := bnd _ _ _ r1
        exact ⟨_, (sumR (fun j => gI u.1 j + v j) 0 p.fRoom.length).toNat, rfl, by omega, r1, by dsimp only; omega⟩
      | inr u => exact .inr ⟨_, rfl, h1, t2⟩) (sumR (fun j => gI dist j + v j) 0 p.fRoom.length).toNat FU (dist, by', bk) ⟨hR, by dsimp only; omega⟩ (by simp only [FU]; omega)
end
end
section
open Go
section
variable {p : SProblem} {room a : List Int} {lo k : Nat} {v : Nat → Int} {dist by' bk : List Int}
theorem Sit.cnt_all (hS : Sit p room a lo k v) (j : Nat) : cnt (Af a) lo (a.length - lo) j = cnt (Af a) lo k j := by
  have hlk := hS.lk
  have : ∀ q, lo + (k + q) ≤ a.length → cnt (Af a) lo (k + q) j = cnt (Af a) lo k j := by
    intro q
    induction q with
    | zero => intro _; rfl
    | succ q ih =>
      intro h
      have e : cnt (Af a) lo (k + (q + 1)) j = cnt (Af a) lo (k + q) j + (if Af a (lo + (k + q)) = (j : Int) then 1 else 0) := by
        unfold cnt; rw [← Nat.add_assoc k, sumR_snoc]
      rw [e, ih (by omega), hS.rest _ (by omega) (by omega), if_neg (by omega)]; omega
  rw [show a.length - lo = k + (a.length - lo - k) by omega]
  exact this _ (by omega)
/-- The end of the way, and what it costs. -/
def EndAt (p : SProblem) (room a : List Int) (lo k : Nat) (dist : List Int) (L e out : Int) : Prop :=
  (e = -1 ∧ out = ((lo + k : Nat) : Int) ∧ L = p.fPenalty) ∨ (∃ j : Nat, e = j ∧ j < p.fRoom.length ∧ gI dist j < FAR ∧ out = -1 ∧ cnt (Af a) lo k j < gI room j ∧ L = gI dist j) ∨
    (∃ j i : Nat, e = j ∧ j < p.fRoom.length ∧ gI dist j < FAR ∧ out = i ∧ lo ≤ i ∧ i < lo + k ∧ Af a i = j ∧ L = gI dist j - Cf p i j + p.fPenalty)
theorem add_L7 (hS : Sit p room a lo k v) (hR : RI p a lo k v dist by' bk) {j : Nat} (hj : j < p.fRoom.length) {l : List Int} (hll : l.length ≤ 12) (hmem : ∀ x ∈ l, ∃ i : Nat, x = i ∧ lo ≤ i ∧ i < a.length ∧ Af a i = j)
    {L e out : Int} (_ : L ≤ p.fPenalty) (hE : EndAt p room a lo k dist L e out) :
    ∃ t : Int × Int × Int, iter FU (fun s => m_route_search_add_L7 FU ⟨p, room, a, (lo : Int)⟩ (dist, by', bk) (j : Int) l s.1 s.2.1 s.2.2.1 s.2.2.2) (L, e, out, (0 : Int)) = some t ∧ t.1 ≤ L ∧ EndAt p room a lo k dist t.1 t.2.1 t.2.2 ∧
      ∀ i : Nat, (i : Int) ∈ l → gI dist j < FAR → t.1 ≤ gI dist j - Cf p i j + p.fPenalty := by
  have hp1 := hS.vp.p1
  have hp2 := hS.vp.p2
  have hd := hR.ln.r j hj
  refine iter_inv (σ := Int × Int × Int × Int) (I := fun kk s => ∃ q : Nat, s.2.2.2 = q ∧ q + kk = l.length ∧ s.1 ≤ L ∧ EndAt p room a lo k dist s.1 s.2.1 s.2.2.1 ∧ ∀ z : Nat, z < q → ∀ i : Nat, gI l z = i → gI dist j < FAR → s.1 ≤ gI dist j - Cf p i j + p.fPenalty)
    (Q := fun t : Int × Int × Int => t.1 ≤ L ∧ EndAt p room a lo k dist t.1 t.2.1 t.2.2 ∧ ∀ i : Nat, (i : Int) ∈ l → gI dist j < FAR → t.1 ≤ gI dist j - Cf p i j + p.fPenalty) (by
      rintro kk ⟨L', e', o', z⟩ ⟨q, h1, h2, h3, h4, h5⟩
      dsimp only at h1 h3 h4 h5
      subst h1
      simp only [m_route_search_add_L7]
      by_cases hk : kk = 0
      · right
        refine ⟨(L', e', o'), by rw [decide_eq_false (by omega)]; rfl, h3, h4, fun i hi hf => ?_⟩
        obtain ⟨z, hz, hzi⟩ := List.getElem_of_mem hi
        exact h5 z (by omega) i (by simp [hz, hzi]) hf
      · left
        have hq : q < l.length := by omega
        obtain ⟨i, e1, i1, i2, i3⟩ := hmem (gI l q) (by simp [hq])
        have hal := hS.al
        have hrow := hS.vp.row i (by omega)
        have hco : -1 ≤ gI (p.fCosts.getD i []) j ∧ gI (p.fCosts.getD i []) j ≤ 10000 := hS.vp.co i j (by omega) hj
        rw [decide_eq_true (show (q : Int) < (l.length : Int) by omega), if_pos rfl, ixG hq, Option.bind_some, e1, ixG (show j < dist.length by rw [hR.ln.d]; exact hj)]
        simp only [Option.bind_some]
        rw [ixC (by omega), Option.bind_some, ixG (by omega)]
        simp only [Option.bind_some]
        rw [w64 (x := gI dist j - gI (p.fCosts.getD i []) j) (by dsimp only [FAR] at *; omega) (by dsimp only [FAR] at *; omega), w64 (x := gI dist j - gI (p.fCosts.getD i []) j + p.fPenalty) (by dsimp only [FAR] at *; omega) (by dsimp only [FAR] at *; omega), w64 (x := (q : Int) + 1) (by omega) (by omega)]
        have hCf : Cf p i j = gI (p.fCosts.getD i []) j := rfl
        have i4 : i < lo + k := by
          refine Nat.lt_of_not_le fun hle => ?_
          have := hS.rest i hle i2
          rw [i3] at this; omega
        by_cases hc : gI dist j < FAR ∧ gI dist j - gI (p.fCosts.getD i []) j + p.fPenalty < L'
        · rw [decide_eq_true hc.1, decide_eq_true hc.2]
          simp only [Bool.and_self, if_true, Option.bind_some]
          refine ⟨_, kk - 1, rfl, by omega, q + 1, by simp, by omega, by dsimp only; omega, .inr (.inr ⟨j, i, rfl, hj, hc.1, rfl, i1, i4, i3, rfl⟩), fun w hw u hu hf => ?_⟩
          by_cases hwq : w = q
          · subst hwq
            rw [e1] at hu
            obtain rfl : i = u := by omega
            exact Int.le_refl _
          · have := h5 w (by omega) u hu hf
            dsimp only; omega
        · have hc' : (decide (gI dist j < 1099511627776) && decide (gI dist j - gI (p.fCosts.getD i []) j + p.fPenalty < L')) = false := by
            rw [Bool.and_eq_false_iff, decide_eq_false_iff_not, decide_eq_false_iff_not]
            exact Classical.not_and_iff_not_or_not.1 hc
          rw [hc']
          simp only [Bool.false_eq_true, if_false, Option.bind_some]
          refine ⟨_, kk - 1, rfl, by omega, q + 1, by simp, by omega, h3, h4, fun w hw u hu hf => ?_⟩
          by_cases hwq : w = q
          · subst hwq
            rw [e1] at hu
            obtain rfl : i = u := by omega
            have : ¬ gI dist j - gI (p.fCosts.getD i []) j + p.fPenalty < L' := fun h => hc ⟨hf, h⟩
            rw [hCf]; dsimp only; omega
          · exact h5 w (by omega) u hu hf) l.length FU (L, e, out, 0) ⟨0, rfl, by omega, Int.le_refl _, hE, fun z hz => by omega⟩ (by simp only [FU]; omega)
theorem add_L6 (hS : Sit p room a lo k v) (hR : RI p a lo k v dist by' bk) :
    ∃ (L : Int) (t : Int × Int), iter FU (fun s => m_route_search_add_L6 FU ⟨p, room, a, (lo : Int)⟩ (dist, by', bk) s.1 s.2.1 s.2.2.1 s.2.2.2) (p.fPenalty, (-1 : Int), ((lo + k : Nat) : Int), (0 : Int)) = some t ∧ L ≤ p.fPenalty ∧ EndAt p room a lo k dist L t.1 t.2 ∧
      (∀ j, j < p.fRoom.length → gI dist j < FAR → cnt (Af a) lo k j < gI room j → L ≤ gI dist j) ∧ ∀ j, j < p.fRoom.length → gI dist j < FAR → ∀ i, lo ≤ i → i < lo + k → Af a i = (j : Int) → L ≤ gI dist j - Cf p i j + p.fPenalty := by
  have hp1 := hS.vp.p1
  have hp2 := hS.vp.p2
  have hm := hS.vp.r
  have hc := hS.vp.c
  have hal := hS.al
  have hlk := hS.lk
  have main := iter_inv (σ := Int × Int × Int × Int) (f := fun s => m_route_search_add_L6 FU ⟨p, room, a, (lo : Int)⟩ (dist, by', bk) s.1 s.2.1 s.2.2.1 s.2.2.2)
    (I := fun kk s => ∃ q : Nat, s.2.2.2 = q ∧ q + kk = p.fRoom.length ∧ s.1 ≤ p.fPenalty ∧ EndAt p room a lo k dist s.1 s.2.1 s.2.2.1 ∧
      (∀ j, j < q → gI dist j < FAR → cnt (Af a) lo k j < gI room j → s.1 ≤ gI dist j) ∧ ∀ j, j < q → gI dist j < FAR → ∀ i, lo ≤ i → i < lo + k → Af a i = (j : Int) → s.1 ≤ gI dist j - Cf p i j + p.fPenalty)
    (Q := fun t : Int × Int => ∃ L : Int, L ≤ p.fPenalty ∧ EndAt p room a lo k dist L t.1 t.2 ∧
      (∀ j, j < p.fRoom.length → gI dist j < FAR → cnt (Af a) lo k j < gI room j → L ≤ gI dist j) ∧ ∀ j, j < p.fRoom.length → gI dist j < FAR → ∀ i, lo ≤ i → i < lo + k → Af a i = (j : Int) → L ≤ gI dist j - Cf p i j + p.fPenalty) (by
      rintro kk ⟨L', e', o', z⟩ ⟨q, h1, h2, h3, h4, h5, h6⟩
      dsimp only at h1 h3 h4 h5 h6
      subst h1
      simp only [m_route_search_add_L6]
      by_cases hk : kk = 0
      · right
        exact ⟨(e', o'), by rw [decide_eq_false (by rw [hS.rl]; omega)]; rfl, L', h3, h4, fun j hj => h5 j (by omega), fun j hj => h6 j (by omega)⟩
      · left
        have hq : q < p.fRoom.length := by omega
        obtain ⟨l, l1, l2, l3, l4⟩ := asg (q := p) (room := room) (show a.length ≤ 12 by omega) (show lo ≤ a.length by omega) q
        rw [hS.cnt_all] at l4
        have hll : l.length ≤ 12 := by
          have := sumR_le k lo (f := fun i => if Af a i = (q : Int) then 1 else 0) (g := fun _ => 1) (fun i _ _ => by split <;> omega)
          have e : ∀ (k lo : Nat), sumR (fun _ => 1) lo k = k := by
            intro k
            induction k with
            | zero => intro lo; rfl
            | succ k ih => intro lo; rw [sumR, ih]; omega
          rw [e] at this
          unfold cnt at l4; omega
        have hdq := hR.ln.r q hq
        rw [decide_eq_true (show (q : Int) < (room.length : Int) by rw [hS.rl]; omega), if_pos rfl,
          show (⟨(⟨p.fCosts, p.fRoom, p.fPenalty⟩ : SProblem), room, a, (lo : Int)⟩ : Ssearch) = ⟨p, room, a, (lo : Int)⟩ from rfl, l1, Option.bind_some, ixG (show q < room.length by rw [hS.rl]; exact hq), Option.bind_some, ixG (show q < dist.length by rw [hR.ln.d]; exact hq)]
        obtain ⟨L1, e1, o1, hsel, g1, g2, g3⟩ : ∃ L1 e1 o1 : Int, ((if decide ((l.length : Int) < gI room q) = true then some (gI dist q) else some default).bind fun v15 => (if decide ((l.length : Int) < gI room q) = true then some (gI dist q) else some default).bind fun v16 =>
            if (decide ((l.length : Int) < gI room q) && decide (v16 < L')) = true then (some (gI dist q)).bind fun v17 => (some (gI dist q)).bind fun v18 => some (v18, (q : Int), (-1 : Int)) else some (L', e', o')) = some (L1, e1, o1) ∧ L1 ≤ L' ∧ EndAt p room a lo k dist L1 e1 o1 ∧ (gI dist q < FAR → cnt (Af a) lo k q < gI room q → L1 ≤ gI dist q) := by
          by_cases hr : (l.length : Int) < gI room q
          · by_cases hl : gI dist q < L'
            · exact ⟨gI dist q, q, -1, by simp [-List.getD_eq_getElem?_getD, hr, hl], by omega, .inr (.inl ⟨q, rfl, hq, by dsimp only [FAR]; omega, rfl, by rw [← l4]; exact hr, rfl⟩), fun _ _ => Int.le_refl _⟩
            · exact ⟨L', e', o', by simp [-List.getD_eq_getElem?_getD, hr, hl], Int.le_refl _, h4, fun _ _ => by omega⟩
          · exact ⟨L', e', o', by simp [-List.getD_eq_getElem?_getD, hr], Int.le_refl _, h4, fun _ h => by rw [← l4] at h; omega⟩
        rw [hsel, Option.bind_some]
        obtain ⟨t, t1, t2, t3, t4⟩ := add_L7 hS hR hq hll l2 (show L1 ≤ p.fPenalty by omega) g2
        rw [t1, Option.bind_some, wadd1 (show q < 12 by omega) (by decide)]
        refine ⟨_, kk - 1, rfl, by omega, q + 1, rfl, by omega, by dsimp only; omega, t3, fun j hj hf hcn => ?_, fun j hj hf i i1 i2 i3 => ?_⟩
        · dsimp only
          by_cases hjq : j = q
          · subst hjq
            have := g3 hf hcn; omega
          · have := h5 j (by omega) hf hcn; omega
        · dsimp only
          by_cases hjq : j = q
          · subst hjq
            exact t4 i (l3 i i1 (by omega) i3) hf
          · have := h6 j (by omega) hf i i1 i2 i3; omega) p.fRoom.length FU (p.fPenalty, -1, ((lo + k : Nat) : Int), 0) ⟨0, rfl, by omega, Int.le_refl _, .inl ⟨rfl, rfl, rfl⟩, fun j hj => by omega, fun j hj => by omega⟩ (by simp only [FU]; omega)
  obtain ⟨t, t1, L, t2⟩ := main
  exact ⟨L, t, t1, t2⟩
/-- What a further request leads to. -/
structure Good (p : SProblem) (room a : List Int) (lo k : Nat) : Prop where
  al : a.length = p.fCosts.length
  pm : Perm p.fRoom.length (Cf p) (Af a) lo k (gI room)
  ct : ∃ v : Nat → Int, Cert p.fRoom.length (Cf p) p.fPenalty v (Af a) lo k (gI room) ∧ ∀ j, j < p.fRoom.length → v j ≤ 10000 * k
  rest : ∀ i, lo + k ≤ i → i < a.length → Af a i = -1
theorem add_ok (hv : VP p) (hr : room.length = p.fRoom.length) (hG : Good p room a lo k) (hlk : lo + k < p.fCosts.length) :
    ∃ a', m_route_search_add FU ⟨p, room, a, (lo : Int)⟩ ((lo + k : Nat) : Int) = some ⟨p, room, a', (lo : Int)⟩ ∧ Good p room a' lo (k + 1) := by
  obtain ⟨v, hct, hvb⟩ := hG.ct
  have hm := hv.r
  have hc := hv.c
  have hp2 := hv.p2
  have hal := hG.al
  have hS : Sit p room a lo k v := ⟨hv, hr, hal, by omega, hG.pm, hct, fun j hj => by have := hvb j hj; omega, hG.rest⟩
  unfold m_route_search_add
  obtain ⟨⟨d0, b0⟩, i1, i2, i3, i4⟩ := add_init hv hlk (dist := List.replicate p.fRoom.length 1099511627776) (by' := List.replicate p.fRoom.length 0) (by simp) (by simp)
  dsimp only at i2 i3 i4
  rw [hr, rep_far _ (by omega), Option.bind_some, mkL_some (by decide) (by omega) (by omega), Option.bind_some, rep_neg _ (by omega), Option.bind_some, Int.toNat_natCast]
  dsimp only
  rw [ixC hlk, Option.bind_some, i1, Option.bind_some]
  dsimp only
  -- the start of the search
  have hfin : ∀ j, j < p.fRoom.length → gI d0 j < FAR → Cf p (lo + k) j ≠ -1 := fun j hj hf hcj => by
    rw [(i4 j hj).2 hcj, gI_rep hj] at hf
    exact absurd hf (by decide)
  have hcr : ∀ j, j < p.fRoom.length → Cf p (lo + k) j ≠ -1 → 0 ≤ Cf p (lo + k) j ∧ Cf p (lo + k) j ≤ 10000 := fun j hj hcj => by
    have : -1 ≤ Cf p (lo + k) j ∧ Cf p (lo + k) j ≤ 10000 := hv.co (lo + k) j hlk hj
    omega
  have hR0 : RI p a lo k v d0 b0 (List.replicate p.fRoom.length (-1)) := by
    refine ⟨⟨i2, i3, by simp, fun j hj => ?_⟩, fun j hj hcj => by rw [((i4 j hj).1 hcj).1]; exact Int.le_refl _, fun j hj => ?_, fun j hj hf => ?_, fun j hj hf => ⟨0, .root (gI_rep hj)⟩, fun j hj hf => ?_⟩
    · by_cases hcj : Cf p (lo + k) j = -1
      · rw [(i4 j hj).2 hcj, gI_rep hj]; decide
      · have := hcr j hj hcj
        rw [((i4 j hj).1 hcj).1]; dsimp only [FAR]; omega
    · have := hct.nn j hj
      by_cases hcj : Cf p (lo + k) j = -1
      · rw [(i4 j hj).2 hcj, gI_rep hj]; omega
      · have := hcr j hj hcj
        rw [((i4 j hj).1 hcj).1]; omega
    · have hcj := hfin j hj hf
      have := hcr j hj hcj
      have h1 : 1 ≤ nf p d0 := by
        have := sumR_le p.fRoom.length 0 (f := fun z => if z = j then (1 : Int) else 0) (g := fun z => if gI d0 z < FAR then 1 else 0) (fun z _ _ => by
          by_cases hz : z = j
          · subst hz; rw [if_pos rfl, if_pos hf]; exact Int.le_refl _
          · rw [if_neg hz]; split <;> omega)
        rw [sumR_one, if_pos (by omega)] at this
        exact this
      rw [((i4 j hj).1 hcj).1]; omega
    · have hcj := hfin j hj hf
      exact .inl ⟨gI_rep hj, ((i4 j hj).1 hcj).2, ((i4 j hj).1 hcj).1, hcj⟩
  obtain ⟨⟨d, b, bk⟩, r1, hR, hno⟩ := relax_ends hS hR0
  dsimp only at hR hno
  rw [r1, Option.bind_some]
  obtain ⟨L, ⟨e, out⟩, e1, hL, hE, hl1, hl2⟩ := add_L6 hS hR
  rw [e1, Option.bind_some]
  dsimp only at hE ⊢
  have hnf : nf p d ≤ p.fRoom.length := by
    have := sumR_le p.fRoom.length 0 (f := fun z => if gI d z < FAR then (1 : Int) else 0) (g := fun _ => 1) (fun z _ _ => by split <;> omega)
    have e : ∀ (k lo : Nat), sumR (fun _ => 1) lo k = k := by
      intro k
      induction k with
      | zero => intro lo; rfl
      | succ k ih => intro lo; rw [sumR, ih]; omega
    rw [e] at this
    exact this
  have hD : Dist p.fRoom.length (Cf p) p.fPenalty (Af a) lo k (gI room) (fun j => gI d j < FAR) (gI d) L := by
    refine ⟨fun j hj hcj => ?_, fun j hj hf i h1 h2 h3 y hy hcy => ?_, hL, fun j hj hf hcn => hl1 j hj hf hcn, fun j hj hf i h1 h2 h3 => hl2 j hj hf i h1 h2 h3⟩
    · have := hR.d0 j hj hcj
      have := hcr j hj hcj
      exact ⟨by dsimp only [FAR]; omega, hR.d0 j hj hcj⟩
    · have h4 := hno j hj hf i h1 (by omega) h3 y hy hcy
      have h5 := hR.ub j hj hf
      have h6 := (hS.tight h1 h2 h3 hy hcy).2.1
      have h7 : -1 ≤ Cf p i y ∧ Cf p i y ≤ 10000 := hv.co i y (by omega) hy
      exact ⟨by dsimp only [FAR]; omega, h4⟩
  have hTree : ∀ j, j < p.fRoom.length → gI d j < FAR → Tree p.fRoom.length (Cf p) (Af a) lo k (fun j => gI d j < FAR) (gI d) (gI bk) (gI b) (hgt bk) j := fun j hj hf => by
    rcases hR.ed j hj hf with ⟨b1, b2, b3, b4⟩ | ⟨j', i, b1, b2, b3, b4, b5, b6, b7, b8, b9⟩
    · exact .inl ⟨b1, b2, b3, b4⟩
    · have h4 := hno j' b3 b4 i b5 (by omega) b7 j hj b8
      obtain ⟨n, hn⟩ := hR.rt j' b3 b4
      refine .inr ⟨j', i, b1, b2, b3, b4, b5, b6, b7, b8, by omega, ?_⟩
      rw [hgt_eq hn, hgt_eq (.step b1 hn)]; omega
  have hheight : ∀ j, j < p.fRoom.length → gI d j < FAR → hgt bk j < 12 := fun j hj hf => by
    obtain ⟨n, hn⟩ := hR.rt j hj hf
    obtain ⟨Ls, l1, l2, l3, _⟩ := hn.list (m := p.fRoom.length) (F := fun j => j < p.fRoom.length ∧ gI d j < FAR) (fun z hz => ⟨hz.1, fun j' hj' => by
      rcases hR.ed z hz.1 hz.2 with ⟨b1, _⟩ | ⟨j2, i, b1, b2, b3, b4, _⟩
      · rw [hj'] at b1; omega
      · rw [hj'] at b1
        obtain rfl : j' = j2 := by omega
        exact ⟨b3, b4⟩⟩) ⟨hj, hf⟩
    have := nodup_len _ Ls l2 l3
    rw [hgt_eq hn]; omega
  -- the end is given up
  have hAr : Af a (lo + k) = -1 := hG.rest (lo + k) (Nat.le_refl _) (by omega)
  obtain ⟨a1, ha1, hal1, hB1⟩ : ∃ a1, (if (!decide (out = -1)) = true then (ix a out).bind fun v10 => (setI a out (-1)).bind fun v11 => some v11 else some a : Option (List Int)) = some a1 ∧ a1.length = a.length ∧ ∀ i : Nat, Af a1 i = if out = (i : Int) then -1 else Af a i := by
    by_cases ho : out = -1
    · exact ⟨a, by simp [ho], rfl, fun i => by rw [if_neg (by omega)]⟩
    · obtain ⟨o, rfl, hol⟩ : ∃ o : Nat, out = (o : Int) ∧ o < a.length := by
        rcases hE with ⟨_, h, _⟩ | ⟨j, _, _, _, h, _⟩ | ⟨j, i, _, _, _, h, _, h2, _⟩
        · exact ⟨_, h, by omega⟩
        · exact absurd h ho
        · exact ⟨i, h, by omega⟩
      refine ⟨a.set o (-1), ?_, by simp, fun i => ?_⟩
      · rw [decide_eq_false ho, ixA hol, setG hol]; rfl
      · rw [Af_set hol]
        by_cases hoi : o = i
        · subst hoi; rw [if_pos rfl, if_pos rfl]
        · rw [if_neg hoi, if_neg (by omega)]
  rw [ha1, Option.bind_some]
  have hM0 := Mid.start (h := hgt bk) (B := Af a1) (e := e) (out := out) hG.pm hct hD (fun i h1 h2 => hB1 i) (by rw [hB1]; split <;> first | rfl | exact hAr) hE
  obtain ⟨a2, q1, q2, q3, q4⟩ := iter_inv (σ := Int × List Int) (f := fun s => m_route_search_add_L8 FU (d, b, bk) s.1 s.2)
    (I := fun kk s => Mid p.fRoom.length (Cf p) p.fPenalty (Af a) lo k (gI room) (fun j => gI d j < FAR) v (gI d) L (hgt bk) (Af s.2) s.1 ∧ s.2.length = a.length ∧ (∀ i, lo + (k + 1) ≤ i → i < a.length → Af s.2 i = -1) ∧ (s.1 = -1 ∨ ∃ j : Nat, s.1 = j ∧ kk = hgt bk j + 1))
    (Q := fun t => Mid p.fRoom.length (Cf p) p.fPenalty (Af a) lo k (gI room) (fun j => gI d j < FAR) v (gI d) L (hgt bk) (Af t) (-1) ∧ t.length = a.length ∧ (∀ i, lo + (k + 1) ≤ i → i < a.length → Af t i = -1)) (by
      rintro kk ⟨x, l⟩ ⟨h1, h2, h3, h4⟩
      dsimp only at h1 h2 h3 h4
      simp only [m_route_search_add_L8]
      rcases h4 with rfl | ⟨j, rfl, rfl⟩
      · right
        exact ⟨l, by simp, h1, h2, h3⟩
      · left
        obtain ⟨hj, hf, _⟩ := h1.hx j rfl
        have hT := hTree j hj hf
        obtain ⟨s1, s2⟩ := h1.step hG.pm hct hD hT
        obtain ⟨i, hi, hib⟩ : ∃ i : Nat, gI b j = i ∧ i < lo + (k + 1) := by
          rcases hT with ⟨_, b2, _⟩ | ⟨j', i, _, b2, _, _, _, b6, _⟩
          · exact ⟨_, b2, by omega⟩
          · exact ⟨i, b2, by omega⟩
        have hil : i < l.length := by omega
        rw [hi, Int.toNat_natCast] at s2
        have hfun : Af (l.set i (j : Int)) = updA (Af l) i (j : Int) := by
          funext z
          rw [Af_set hil]
          unfold updA
          by_cases hz : z = i
          · subst hz; simp
          · rw [if_neg (Ne.symm hz), if_neg hz]
        rw [decide_eq_false (show ¬ (j : Int) = -1 by omega)]
        simp only [Bool.not_false, if_true]
        rw [ixG (by rw [hR.ln.b]; exact hj)]
        simp only [Option.bind_some]
        rw [hi, ixA hil, Option.bind_some, setG hil, Option.bind_some, ixG (by rw [hR.ln.k]; exact hj)]
        simp only [Option.bind_some]
        have hrest : ∀ z, lo + (k + 1) ≤ z → z < a.length → Af (l.set i (j : Int)) z = -1 := fun z hz hz2 => by
          rw [Af_set hil, if_neg (by omega)]; exact h3 z hz hz2
        rcases hT with ⟨b1, _⟩ | ⟨j', i', b1, _, b3, b4, _, _, _, _, _, b10⟩
        · exact ⟨_, 0, rfl, by omega, by dsimp only; rw [hfun]; exact s2, by simp [h2], hrest, .inl b1⟩
        · exact ⟨_, hgt bk j' + 1, rfl, by omega, by dsimp only; rw [hfun]; exact s2, by simp [h2], hrest, .inr ⟨j', b1, rfl⟩⟩) (if e = -1 then 0 else hgt bk e.toNat + 1) FU (e, a1) ⟨hM0, hal1, fun i h1 h2 => by
        dsimp only
        rw [hB1, hG.rest i (by omega) h2]; split <;> rfl, by
        rcases hE with ⟨h, _⟩ | ⟨j, h, _⟩ | ⟨j, i, h, _⟩
        · exact .inl h
        · subst h; exact .inr ⟨j, rfl, by rw [if_neg (by omega)]; rfl⟩
        · subst h; exact .inr ⟨j, rfl, by rw [if_neg (by omega)]; rfl⟩⟩ (by
        rcases hE with ⟨h, _⟩ | ⟨j, h, h2, h3, _⟩ | ⟨j, i, h, h2, h3, _⟩
        · rw [if_pos h]; decide
        · subst h
          have := hheight j h2 h3
          rw [if_neg (by omega), Int.toNat_natCast]
          simp only [FU]; omega
        · subst h
          have := hheight j h2 h3
          rw [if_neg (by omega), Int.toNat_natCast]
          simp only [FU]; omega)
  rw [q1, Option.bind_some]
  obtain ⟨f1, f2⟩ := q2.done hct
  refine ⟨a2, rfl, by rw [q3, hal], f1, ⟨_, f2, fun j hj => ?_⟩, fun i h1 h2 => q4 i h1 (by omega)⟩
  have hvj := hvb j hj
  have hnn := hR.nn j hj
  rcases (up_ge (v := v) (d := gI d) (F := fun j => gI d j < FAR) (L := L) j).2.2 with e | ⟨_, e⟩
  · rw [e]; omega
  · rw [e]; omega
end
end
section
open Go
section
variable {p : SProblem} {room a : List Int} {lo k : Nat}
theorem cst_bound (hv : VP p) {i : Nat} {x : Int} (hi : i < p.fCosts.length) (hx : okX p.fRoom.length (Cf p) i x) : 0 ≤ cst (Cf p) p.fPenalty i x ∧ cst (Cf p) p.fPenalty i x ≤ 10000 := by
  have h1 := hv.p1
  have h2 := hv.p2
  rcases okX_cases hx with rfl | ⟨j, rfl, hj, hc⟩
  · rw [cst_n]; omega
  · have : -1 ≤ Cf p i j ∧ Cf p i j ≤ 10000 := hv.co i j hi hj
    rw [cst_j]; omega
theorem costA_bound (hv : VP p) {A : Nat → Int} {lo : Nat} : ∀ k, lo + k ≤ p.fCosts.length → (∀ i, lo ≤ i → i < lo + k → okX p.fRoom.length (Cf p) i (A i)) → 0 ≤ costA (Cf p) p.fPenalty A lo k ∧ costA (Cf p) p.fPenalty A lo k ≤ 10000 * k
  | 0, _, _ => by simp [costA, sumR]
  | k + 1, h, hx => by
    have ih := costA_bound hv k (by omega) (fun i h1 h2 => hx i h1 (by omega))
    have := cst_bound hv (show lo + k < p.fCosts.length by omega) (hx (lo + k) (by omega) (by omega))
    unfold costA at *
    rw [sumR_snoc]; omega
theorem good0 (hn : ∀ j, j < p.fRoom.length → 0 ≤ gI room j) : Good p room (List.replicate p.fCosts.length (-1)) lo 0 := by
  have hrep : ∀ i, i < p.fCosts.length → Af (List.replicate p.fCosts.length (-1)) i = -1 := fun i hi => by simp [hi]
  refine ⟨by simp, ⟨fun i h1 h2 => by omega, fun j hj => by simpa [cnt, sumR] using hn j hj⟩, ⟨fun _ => 0, ⟨fun j _ => Int.le_refl _, fun j _ _ => rfl, fun i h1 h2 => by omega⟩, fun j _ => by simp⟩, fun i h1 h2 => hrep i (by simpa using h2)⟩
theorem least_ok (hv : VP p) (hr : room.length = p.fRoom.length) (hn : ∀ j, j < p.fRoom.length → 0 ≤ gI room j) (hlo : lo ≤ p.fCosts.length) :
    ∃ a, Good p room a lo (p.fCosts.length - lo) ∧ m_route_Problem_least FU p (lo : Int) room = some (costA (Cf p) p.fPenalty (Af a) lo (p.fCosts.length - lo)) := by
  have hc := hv.c
  have hp1 := hv.p1
  have hp2 := hv.p2
  unfold m_route_Problem_least
  rw [rep_neg _ (by omega), Option.bind_some]
  obtain ⟨t, h1, a, rfl, hG⟩ := iter_inv (σ := Int × List Int × List (List Int) × List Int × Int × List Int × Int) (τ := List Int × List (List Int) × List Int × Int × List Int × Int)
    (f := fun s => m_route_Problem_least_L1 FU p s.1 s.2.1 s.2.2.1 s.2.2.2.1 s.2.2.2.2.1 s.2.2.2.2.2.1 s.2.2.2.2.2.2)
    (I := fun kk s => ∃ (k : Nat) (a : List Int), s = (((lo + k : Nat) : Int), a, p.fCosts, p.fRoom, p.fPenalty, room, (lo : Int)) ∧ lo + k + kk = p.fCosts.length ∧ Good p room a lo k)
    (Q := fun t => ∃ a, t = (a, p.fCosts, p.fRoom, p.fPenalty, room, (lo : Int)) ∧ Good p room a lo (p.fCosts.length - lo)) (by
      rintro kk s ⟨k, a, rfl, h2, hG⟩
      simp only [m_route_Problem_least_L1]
      by_cases hk : kk = 0
      · right
        refine ⟨_, by rw [decide_eq_false (by omega)]; rfl, a, rfl, ?_⟩
        rw [show p.fCosts.length - lo = k by omega]; exact hG
      · left
        obtain ⟨a', g1, g2⟩ := add_ok hv hr hG (by omega)
        rw [decide_eq_true (show ((lo + k : Nat) : Int) < (p.fCosts.length : Int) by omega), if_pos rfl, show (⟨(⟨p.fCosts, p.fRoom, p.fPenalty⟩ : SProblem), room, a, (lo : Int)⟩ : Ssearch) = ⟨p, room, a, (lo : Int)⟩ from rfl, g1, Option.bind_some, wadd1 (show lo + k < 12 by omega) (by decide)]
        exact ⟨_, kk - 1, rfl, by omega, k + 1, a', rfl, by omega, g2⟩) (p.fCosts.length - lo) FU ((lo : Int), List.replicate p.fCosts.length (-1), p.fCosts, p.fRoom, p.fPenalty, room, (lo : Int)) ⟨0, _, rfl, by omega, good0 hn⟩ (by simp only [FU]; omega)
  rw [h1, Option.bind_some]
  obtain ⟨t, t1, t2⟩ := iter_inv (σ := Int × Int) (τ := Int) (f := fun s => m_route_Problem_least_L2 FU p (a, p.fCosts, p.fRoom, p.fPenalty, room, (lo : Int)) s.1 s.2)
    (I := fun kk s => ∃ k : Nat, s = (costA (Cf p) p.fPenalty (Af a) lo k, ((lo + k : Nat) : Int)) ∧ lo + k + kk = p.fCosts.length)
    (Q := fun t => t = costA (Cf p) p.fPenalty (Af a) lo (p.fCosts.length - lo)) (by
      rintro kk s ⟨k, rfl, h2⟩
      simp only [m_route_Problem_least_L2]
      by_cases hk : kk = 0
      · right
        refine ⟨_, by rw [decide_eq_false (by omega)]; rfl, ?_⟩
        rw [show p.fCosts.length - lo = k by omega]
      · left
        have hal := hG.al
        have hlk : lo + k < a.length := by omega
        have hx := hG.pm.ok (lo + k) (by omega) (by omega)
        have hb := costA_bound hv (A := Af a) k (by omega) (fun i i1 i2 => hG.pm.ok i i1 (by omega))
        have hcb := cst_bound hv (show lo + k < p.fCosts.length by omega) hx
        have hs : costA (Cf p) p.fPenalty (Af a) lo (k + 1) = costA (Cf p) p.fPenalty (Af a) lo k + cst (Cf p) p.fPenalty (lo + k) (Af a (lo + k)) := by
          unfold costA; rw [sumR_snoc]
        rw [decide_eq_true (show ((lo + k : Nat) : Int) < (p.fCosts.length : Int) by omega), if_pos rfl, ixA hlk]
        simp only [Option.bind_some]
        have hstep : (if decide (Af a (lo + k) = -1) = true then some (IntKind.i64.wrap (costA (Cf p) p.fPenalty (Af a) lo k + p.fPenalty)) else (ix p.fCosts ((lo + k : Nat) : Int)).bind fun v10 => (ix v10 (Af a (lo + k))).bind fun v11 => some (IntKind.i64.wrap (costA (Cf p) p.fPenalty (Af a) lo k + v11))) = some (costA (Cf p) p.fPenalty (Af a) lo (k + 1)) := by
          rw [hs]
          rcases okX_cases hx with e | ⟨j, e, hj, hcj⟩
          · rw [e, cst_n]
            simp only [decide_true, if_true]
            rw [w64 (by omega) (by omega)]
          · rw [e, cst_j] at hcb ⊢
            rw [decide_eq_false (show ¬ (j : Int) = -1 by omega)]
            simp only [Bool.false_eq_true, if_false]
            rw [ixC (by omega), Option.bind_some, ixG (by rw [hv.row _ (by omega)]; exact hj), Option.bind_some]
            have : gI (p.fCosts.getD (lo + k) []) j = Cf p (lo + k) j := rfl
            rw [this, w64 (by omega) (by omega)]
        rw [hstep, Option.bind_some, wadd1 (show lo + k < 12 by omega) (by decide)]
        exact ⟨_, kk - 1, rfl, by omega, k + 1, rfl, by omega⟩) (p.fCosts.length - lo) FU (0, (lo : Int)) ⟨0, by simp [costA, sumR], by omega⟩ (by simp only [FU]; omega)
  rw [t1, Option.bind_some, t2]
  exact ⟨a, hG, rfl⟩

/-- The least cost of the requests from some one on, with some room. -/
def IsOpt (p : SProblem) (room : Nat → Int) (lo : Nat) (N : Int) : Prop :=
  (∃ A, Perm p.fRoom.length (Cf p) A lo (p.fCosts.length - lo) room ∧ costA (Cf p) p.fPenalty A lo (p.fCosts.length - lo) = N) ∧
  ∀ B, Perm p.fRoom.length (Cf p) B lo (p.fCosts.length - lo) room → N ≤ costA (Cf p) p.fPenalty B lo (p.fCosts.length - lo)
theorem least_opt (hv : VP p) (hr : room.length = p.fRoom.length) (hn : ∀ j, j < p.fRoom.length → 0 ≤ gI room j) (hlo : lo ≤ p.fCosts.length) :
    ∃ N, m_route_Problem_least FU p (lo : Int) room = some N ∧ IsOpt p (gI room) lo N := by
  obtain ⟨a, hG, h⟩ := least_ok hv hr hn hlo
  obtain ⟨v, hct, _⟩ := hG.ct
  exact ⟨_, h, ⟨_, hG.pm, rfl⟩, fun B hB => (hct.least hG.pm hB).1⟩
theorem IsOpt.uniq {room : Nat → Int} {N N' : Int} (h : IsOpt p room lo N) (h' : IsOpt p room lo N') : N = N' := by
  obtain ⟨⟨A, hA, e⟩, h2⟩ := h
  obtain ⟨⟨A', hA', e'⟩, h2'⟩ := h'
  have := h2 A' hA'
  have := h2' A hA
  omega
theorem IsOpt.bound (hv : VP p) {room : Nat → Int} {N : Int} (h : IsOpt p room lo N) (hlo : lo ≤ p.fCosts.length) : 0 ≤ N ∧ N ≤ 120000 := by
  obtain ⟨⟨A, hA, e⟩, _⟩ := h
  have := costA_bound hv (A := A) (lo := lo) (p.fCosts.length - lo) (by omega) hA.ok
  have := hv.c
  omega
/-- The room that a choice leaves. -/
def less (room : Nat → Int) (x : Int) (j : Nat) : Int := room j - (if x = (j : Int) then 1 else 0)
theorem cnt_cons {A : Nat → Int} {lo k j : Nat} : cnt A lo (k + 1) j = (if A lo = (j : Int) then 1 else 0) + cnt A (lo + 1) k j := rfl
theorem costA_cons {C : Nat → Nat → Int} {pen : Int} {A : Nat → Int} {lo k : Nat} : costA C pen A lo (k + 1) = cst C pen lo (A lo) + costA C pen A (lo + 1) k := rfl
theorem Perm.tail {m : Nat} {C : Nat → Nat → Int} {A : Nat → Int} {lo k : Nat} {room : Nat → Int} (h : Perm m C A lo (k + 1) room) : okX m C lo (A lo) ∧ Perm m C A (lo + 1) k (less room (A lo)) := by
  refine ⟨h.ok lo (Nat.le_refl _) (by omega), fun i h1 h2 => h.ok i (by omega) (by omega), fun j hj => ?_⟩
  have := h.rm j hj
  rw [cnt_cons] at this
  unfold less; omega
theorem Perm.cons {m : Nat} {C : Nat → Nat → Int} {A : Nat → Int} {lo k : Nat} {room : Nat → Int} {x : Int} (hx : okX m C lo x) (h : Perm m C A (lo + 1) k (less room x)) :
    Perm m C (updA A lo x) lo (k + 1) room ∧ ∀ pen, costA C pen (updA A lo x) lo (k + 1) = cst C pen lo x + costA C pen A (lo + 1) k := by
  have e0 : updA A lo x lo = x := if_pos rfl
  have e1 : ∀ i, lo + 1 ≤ i → updA A lo x i = A i := fun i hi => if_neg (by omega)
  have ec : ∀ j, cnt (updA A lo x) (lo + 1) k j = cnt A (lo + 1) k j := fun j => sumR_congr k (lo + 1) (fun i a _ => by rw [e1 i a])
  refine ⟨⟨fun i h1 h2 => ?_, fun j hj => ?_⟩, fun pen => ?_⟩
  · by_cases hi : i = lo
    · subst hi; rw [e0]; exact hx
    · rw [e1 i (by omega)]; exact h.ok i (by omega) (by omega)
  · have := h.rm j hj
    rw [cnt_cons, e0, ec]
    unfold less at this; omega
  · rw [costA_cons, e0]
    congr 1
    exact sumR_congr k (lo + 1) (fun i a _ => by rw [e1 i a])
/-- One choice after the other. -/
theorem IsOpt.first {room : Nat → Int} {N : Int} (hlo : lo < p.fCosts.length) (h : IsOpt p room lo N) :
    (∃ x, okX p.fRoom.length (Cf p) lo x ∧ (∀ j, j < p.fRoom.length → x = (j : Int) → 1 ≤ room j) ∧ IsOpt p (less room x) (lo + 1) (N - cst (Cf p) p.fPenalty lo x)) ∧
    ∀ x N', okX p.fRoom.length (Cf p) lo x → IsOpt p (less room x) (lo + 1) N' → N ≤ cst (Cf p) p.fPenalty lo x + N' := by
  obtain ⟨⟨A, hA, e⟩, h2⟩ := h
  have hk : p.fCosts.length - lo = p.fCosts.length - (lo + 1) + 1 := by omega
  rw [hk] at hA e h2
  have hext : ∀ x B, okX p.fRoom.length (Cf p) lo x → Perm p.fRoom.length (Cf p) B (lo + 1) (p.fCosts.length - (lo + 1)) (less room x) → N ≤ cst (Cf p) p.fPenalty lo x + costA (Cf p) p.fPenalty B (lo + 1) (p.fCosts.length - (lo + 1)) := fun x B hx hB => by
    obtain ⟨c1, c2⟩ := hB.cons hx
    have := h2 _ c1
    rwa [c2] at this
  constructor
  · obtain ⟨t1, t2⟩ := hA.tail
    refine ⟨A lo, t1, fun j hj hjx => ?_, ⟨A, t2, ?_⟩, fun B hB => ?_⟩
    · have := hA.rm j hj
      rw [cnt_cons, if_pos hjx] at this
      have := cnt_nn (A := A) (lo := lo + 1) (k := p.fCosts.length - (lo + 1)) (j := j)
      omega
    · rw [costA_cons] at e; omega
    · have := hext _ B t1 hB; omega
  · rintro x N' hx ⟨⟨B, hB, eB⟩, _⟩
    have := hext x B hx hB
    omega
end
end
section
open Go
section
variable {p : SProblem} {lo k : Nat}
theorem Perm.congr {m : Nat} {C : Nat → Nat → Int} {A : Nat → Int} {f g : Nat → Int} (h : Perm m C A lo k f) (e : ∀ j, j < m → f j = g j) : Perm m C A lo k g :=
  ⟨h.ok, fun j hj => by rw [← e j hj]; exact h.rm j hj⟩
theorem IsOpt.congr {f g : Nat → Int} {N : Int} (h : IsOpt p f lo N) (e : ∀ j, j < p.fRoom.length → f j = g j) : IsOpt p g lo N := by
  obtain ⟨⟨A, hA, c⟩, h2⟩ := h
  exact ⟨⟨A, hA.congr e, c⟩, fun B hB => h2 B (hB.congr (fun j hj => (e j hj).symm))⟩
theorem sumR_split (f : Nat → Int) : ∀ (k1 k2 lo : Nat), sumR f lo (k1 + k2) = sumR f lo k1 + sumR f (lo + k1) k2
  | 0, k2, lo => by simp [sumR]
  | k1 + 1, k2, lo => by
    rw [show k1 + 1 + k2 = (k1 + k2) + 1 by omega, sumR, sumR, sumR_split f k1 k2 (lo + 1), show lo + 1 + k1 = lo + (k1 + 1) by omega]; omega
theorem set_back {l : List Int} {i : Nat} {x : Int} (h : i < l.length) : (l.set i x).set i (gI l i) = l := by
  rw [List.set_set]
  apply List.ext_getElem
  · simp
  · intro n h1 h2
    rw [List.getElem_set]
    split
    · rename_i e; subst e; simp [h]
    · rfl
/-- A choice that is as good as the best one. -/
def Fits (p : SProblem) (R : Nat → Int) (i : Nat) (left x : Int) : Prop :=
  okX p.fRoom.length (Cf p) i x ∧ (∀ j, j < p.fRoom.length → x = (j : Int) → 1 ≤ R j) ∧ IsOpt p (less R x) (i + 1) (left - cst (Cf p) p.fPenalty i x)
theorem solve_L2 (hv : VP p) {R al : List Int} {i : Nat} {left : Int} (hi : i < p.fCosts.length) (hR : R.length = p.fRoom.length) (hnn : ∀ j, j < p.fRoom.length → 0 ≤ gI R j ∧ gI R j ≤ 20) (hal : al.length ≤ 12) (hopt : IsOpt p (gI R) i left) :
    ∃ t : Int × List Int × List Int, iter FU (fun s => m_route_Solve_L2 FU p left al (i : Int) s.1 s.2) ((-1 : Int), R) = some t ∧
      ∃ x, Fits p (gI R) i left x ∧ t.1 = left - cst (Cf p) p.fPenalty i x ∧ t.2.1 = al ++ [x] ∧ t.2.2.length = p.fRoom.length ∧ (∀ j, j < p.fRoom.length → gI t.2.2 j = less (gI R) x j) ∧ ∀ x', x' < x → ¬ Fits p (gI R) i left x' := by
  have hm := hv.r
  have hp1 := hv.p1
  have hp2 := hv.p2
  have hlb := hopt.bound hv (by omega)
  obtain ⟨⟨xx, hxx⟩, hfirst⟩ := hopt.first hi
  have low : ∀ x, Fits p (gI R) i left x → -1 ≤ x ∧ x < p.fRoom.length := fun x hx => by
    rcases okX_cases hx.1 with rfl | ⟨j, rfl, hj, _⟩ <;> omega
  -- whether a choice fits is told by the least cost of the rest
  have tell : ∀ x N', okX p.fRoom.length (Cf p) i x → (∀ j, j < p.fRoom.length → x = (j : Int) → 1 ≤ gI R j) → IsOpt p (less (gI R) x) (i + 1) N' → (Fits p (gI R) i left x ↔ cst (Cf p) p.fPenalty i x + N' = left) := fun x N' h1 h2 h3 => by
    constructor
    · rintro ⟨_, _, h⟩
      have := h.uniq h3; omega
    · intro e
      exact ⟨h1, h2, by rw [show left - cst (Cf p) p.fPenalty i x = N' by omega]; exact h3⟩
  refine iter_inv (σ := Int × List Int) (I := fun kk s => ∃ j : Int, s = (j, R) ∧ -1 ≤ j ∧ j + kk = p.fRoom.length ∧ ∀ x', x' < j → ¬ Fits p (gI R) i left x')
    (Q := fun t : Int × List Int × List Int => ∃ x, Fits p (gI R) i left x ∧ t.1 = left - cst (Cf p) p.fPenalty i x ∧ t.2.1 = al ++ [x] ∧ t.2.2.length = p.fRoom.length ∧ (∀ j, j < p.fRoom.length → gI t.2.2 j = less (gI R) x j) ∧ ∀ x', x' < x → ¬ Fits p (gI R) i left x') (by
      rintro kk s ⟨j, rfl, j0, h1, h2⟩
      simp only [m_route_Solve_L2]
      by_cases hk : kk = 0
      · exact absurd hxx (h2 xx (by have := low xx hxx; omega))
      · rw [decide_eq_true (show j < (R.length : Int) by rw [hR]; omega), if_pos rfl]
        have nexti : (¬ Fits p (gI R) i left j) → ∀ x', x' < j + 1 → ¬ Fits p (gI R) i left x' := fun hno x' hx' => by
          by_cases e : x' = j
          · subst e; exact hno
          · exact h2 x' (by omega)
        have hw : IntKind.i64.wrap (j + 1) = j + 1 := w64 (by omega) (by omega)
        have hwi : IntKind.i64.wrap ((i : Int) + 1) = ((i + 1 : Nat) : Int) := wadd1 (show i < 12 by have := hv.c; omega) (by decide)
        rcases (show j = -1 ∨ 0 ≤ j by omega) with rfl | hj0
        · -- nobody
          simp only [decide_true, Bool.not_true, Bool.false_eq_true, if_false, Option.bind_some]
          obtain ⟨N', n1, n2⟩ := least_opt hv hR (fun j hj => (hnn j hj).1) (show i + 1 ≤ p.fCosts.length by omega)
          have n3 : IsOpt p (less (gI R) (-1)) (i + 1) N' := n2.congr (fun j _ => by unfold less; rw [if_neg (by omega)]; omega)
          have nb := n3.bound hv (by omega)
          have ht := tell (-1) N' (.inl rfl) (fun j _ hj => by omega) n3
          rw [cst_n] at ht
          rw [hwi, show (⟨p.fCosts, p.fRoom, p.fPenalty⟩ : SProblem) = p from rfl, n1, Option.bind_some, w64 (x := p.fPenalty + N') (by omega) (by omega)]
          by_cases hf : p.fPenalty + N' = left
          · right
            simp only [hf, decide_true, if_true]
            rw [app_some (by decide) (by simp; omega), Option.bind_some, w64 (by omega) (by omega)]
            exact ⟨_, rfl, -1, ht.2 hf, by rw [cst_n], rfl, hR, fun j _ => by unfold less; rw [if_neg (by omega)]; dsimp only; omega, h2⟩
          · left
            simp only [hf, decide_false, Bool.false_eq_true, if_false, Option.bind_some]
            exact ⟨_, kk - 1, rfl, by omega, 0, by rw [show IntKind.i64.wrap (-1 + 1) = 0 by rw [w64 (by omega) (by omega)]; rfl], by omega, by omega, nexti (fun h => hf (ht.1 h))⟩
        · obtain ⟨z, rfl⟩ := Int.eq_ofNat_of_zero_le hj0
          have hz : z < p.fRoom.length := by omega
          have hnz := hnn z hz
          have hco : -1 ≤ gI (p.fCosts.getD i []) z ∧ gI (p.fCosts.getD i []) z ≤ 10000 := hv.co i z hi hz
          have hCf : gI (p.fCosts.getD i []) z = Cf p i z := rfl
          rw [decide_eq_false (show ¬ (z : Int) = -1 by omega)]
          simp only [Bool.not_false, if_true]
          rw [ixC hi, Option.bind_some, ixG (by rw [hv.row i hi]; exact hz)]
          simp only [Option.bind_some]
          by_cases hc : gI (p.fCosts.getD i []) z = -1
          · left
            simp only [hc, decide_true, Bool.not_true, Bool.false_eq_true, if_false, Option.bind_some, Bool.true_or, if_true]
            rw [hw]
            refine ⟨_, kk - 1, rfl, by omega, (z : Int) + 1, rfl, by omega, by omega, nexti (fun h => ?_)⟩
            rcases okX_cases h.1 with e | ⟨j', e, _, hcj⟩
            · omega
            · obtain rfl : z = j' := by omega
              exact hcj (hCf ▸ hc)
          · simp only [hc, decide_false, Bool.not_false, if_true, Bool.false_or]
            rw [ixG (by rw [hR]; exact hz)]
            simp only [Option.bind_some]
            by_cases hr : gI R z = 0
            · left
              simp only [hr, decide_true, if_true, Option.bind_some]
              rw [hw]
              refine ⟨_, kk - 1, rfl, by omega, (z : Int) + 1, rfl, by omega, by omega, nexti (fun h => ?_)⟩
              have := h.2.1 z hz rfl
              omega
            · simp only [hr, decide_false, Bool.false_eq_true, if_false]
              rw [w64 (x := gI R z - 1) (by omega) (by omega), setG (by rw [hR]; exact hz)]
              simp only [Option.bind_some]
              have hR1 : (R.set z (gI R z - 1)).length = p.fRoom.length := by simp [hR]
              have hg1 : ∀ y, gI (R.set z (gI R z - 1)) y = if z = y then gI R z - 1 else gI R y := fun y => gI_set (by rw [hR]; exact hz)
              have hls : ∀ y, y < p.fRoom.length → gI (R.set z (gI R z - 1)) y = less (gI R) (z : Int) y := fun y _ => by
                rw [hg1]; unfold less
                by_cases hzy : z = y
                · subst hzy; rw [if_pos rfl, if_pos rfl]
                · rw [if_neg hzy, if_neg (by omega)]; omega
              obtain ⟨N', n1, n2⟩ := least_opt hv hR1 (fun y hy => by
                rw [hg1]
                by_cases hh : z = y
                · rw [if_pos hh]; omega
                · rw [if_neg hh]; exact (hnn y hy).1) (show i + 1 ≤ p.fCosts.length by omega)
              have n3 := n2.congr hls
              have nb := n3.bound hv (by omega)
              have ht := tell (z : Int) N' (okX_j hz (hCf ▸ hc)) (fun y hy hzy => by rw [show y = z by omega]; omega) n3
              rw [cst_j, ← hCf] at ht
              rw [hwi, show (⟨p.fCosts, p.fRoom, p.fPenalty⟩ : SProblem) = p from rfl, n1, Option.bind_some, w64 (x := gI (p.fCosts.getD i []) z + N') (by omega) (by omega)]
              by_cases hf : gI (p.fCosts.getD i []) z + N' = left
              · right
                simp only [hf, decide_true, if_true]
                rw [app_some (by decide) (by simp; omega), Option.bind_some, w64 (by omega) (by omega)]
                exact ⟨_, rfl, (z : Int), ht.2 hf, by rw [cst_j], rfl, hR1, hls, h2⟩
              · left
                simp only [hf, decide_false, Bool.false_eq_true, if_false]
                rw [ixG (by rw [hR1]; exact hz)]
                simp only [Option.bind_some]
                rw [hg1, if_pos rfl, w64 (x := gI R z - 1 + 1) (by omega) (by omega), setG (by rw [hR1]; exact hz)]
                simp only [Option.bind_some]
                rw [hw, show gI R z - 1 + 1 = gI R z by omega, set_back (by rw [hR]; exact hz)]
                exact ⟨_, kk - 1, rfl, by omega, (z : Int) + 1, rfl, by omega, by omega, nexti (fun h => hf (ht.1 h))⟩) (p.fRoom.length + 1) FU (-1, R) ⟨-1, rfl, by omega, by omega, fun x' hx' h => by have := low x' h; omega⟩ (by simp only [FU]; omega)
/-- The best assignment, and the first one of them. -/
structure Best (p : SProblem) (a : List Int) : Prop where
  al : a.length = p.fCosts.length
  pm : Perm p.fRoom.length (Cf p) (Af a) 0 p.fCosts.length (gI p.fRoom)
  op : ∀ B, Perm p.fRoom.length (Cf p) B 0 p.fCosts.length (gI p.fRoom) → costA (Cf p) p.fPenalty (Af a) 0 p.fCosts.length ≤ costA (Cf p) p.fPenalty B 0 p.fCosts.length
  lx : ∀ B, Perm p.fRoom.length (Cf p) B 0 p.fCosts.length (gI p.fRoom) → costA (Cf p) p.fPenalty B 0 p.fCosts.length = costA (Cf p) p.fPenalty (Af a) 0 p.fCosts.length →
    (∀ z, z < p.fCosts.length → B z = Af a z) ∨ ∃ z, z < p.fCosts.length ∧ (∀ w, w < z → B w = Af a w) ∧ Af a z < B z
  ct : ∃ v : Nat → Int, Cert p.fRoom.length (Cf p) p.fPenalty v (Af a) 0 p.fCosts.length (gI p.fRoom)
theorem Af_snoc {al : List Int} {x : Int} {z : Nat} : Af (al ++ [x]) z = if z = al.length then x else Af al z := by
  unfold Af
  simp only [List.getD_eq_getElem?_getD, List.getElem?_append]
  by_cases h : z < al.length
  · rw [if_pos h, if_neg (by omega)]
  · rw [if_neg h]
    by_cases h2 : z = al.length
    · subst h2; simp
    · rw [if_neg h2, List.getElem?_eq_none (by simp; omega), List.getElem?_eq_none (by omega)]
theorem solve_L1 (hv : VP p) {R0 : List Int} (hR0 : R0 = p.fRoom) {N0 : Int} (hopt : IsOpt p (gI p.fRoom) 0 N0) :
    ∃ t : List Int × List Int, iter FU (fun s => m_route_Solve_L1 FU p s.1 s.2.1 s.2.2.1 s.2.2.2) (N0, [], (0 : Int), R0) = some t ∧ Best p t.1 := by
  subst hR0
  have hcn := hv.c
  obtain ⟨t, h1, h2⟩ := iter_inv (σ := Int × List Int × Int × List Int) (τ := List Int × List Int) (f := fun s => m_route_Solve_L1 FU p s.1 s.2.1 s.2.2.1 s.2.2.2)
    (I := fun kk s => ∃ (i : Nat) (left : Int) (al R : List Int), s = (left, al, (i : Int), R) ∧ i + kk = p.fCosts.length ∧ al.length = i ∧ R.length = p.fRoom.length ∧ (∀ j, j < p.fRoom.length → 0 ≤ gI R j ∧ gI R j = gI p.fRoom j - cnt (Af al) 0 i j) ∧
      (∀ z, z < i → okX p.fRoom.length (Cf p) z (Af al z)) ∧ IsOpt p (gI R) i left ∧ costA (Cf p) p.fPenalty (Af al) 0 i + left = N0 ∧
      ∀ B, Perm p.fRoom.length (Cf p) B 0 p.fCosts.length (gI p.fRoom) → costA (Cf p) p.fPenalty B 0 p.fCosts.length = N0 → (∀ z, z < i → B z = Af al z) ∨ ∃ z, z < i ∧ (∀ w, w < z → B w = Af al w) ∧ Af al z < B z)
    (Q := fun t => t.1.length = p.fCosts.length ∧ Perm p.fRoom.length (Cf p) (Af t.1) 0 p.fCosts.length (gI p.fRoom) ∧ costA (Cf p) p.fPenalty (Af t.1) 0 p.fCosts.length = N0 ∧
      ∀ B, Perm p.fRoom.length (Cf p) B 0 p.fCosts.length (gI p.fRoom) → costA (Cf p) p.fPenalty B 0 p.fCosts.length = N0 → (∀ z, z < p.fCosts.length → B z = Af t.1 z) ∨ ∃ z, z < p.fCosts.length ∧ (∀ w, w < z → B w = Af t.1 w) ∧ Af t.1 z < B z) (by
      rintro kk s ⟨i, left, al, R, rfl, g1, g2, g3, g4, g5, g6, g7, g8⟩
      simp only [m_route_Solve_L1]
      by_cases hk : kk = 0
      · right
        have e : i = p.fCosts.length := by omega
        subst e
        refine ⟨(al, R), by rw [decide_eq_false (by omega)]; rfl, g2, ⟨fun z _ hz => g5 z (by omega), fun j hj => ?_⟩, ?_, g8⟩
        · have := g4 j hj; dsimp only; omega
        · obtain ⟨⟨A, _, hA⟩, _⟩ := g6
          have : left = 0 := by rw [← hA]; unfold costA; rw [Nat.sub_self]; rfl
          dsimp only; omega
      · left
        have hi : i < p.fCosts.length := by omega
        rw [decide_eq_true (show (i : Int) < (p.fCosts.length : Int) by omega), if_pos rfl]
        have hroom : ∀ j, j < p.fRoom.length → 0 ≤ gI R j ∧ gI R j ≤ 20 := fun j hj => by
          have := g4 j hj
          have : 0 ≤ gI p.fRoom j ∧ gI p.fRoom j ≤ 20 := hv.rm j hj
          have := cnt_nn (A := Af al) (lo := 0) (k := i) (j := j)
          omega
        obtain ⟨t, t1, x, x1, x2, x3, x4, x5, x6⟩ := solve_L2 hv hi g3 hroom (show al.length ≤ 12 by omega) g6
        rw [t1, Option.bind_some, Option.bind_some, wadd1 (show i < 12 by omega) (by decide)]
        have haf : ∀ z, z < i → Af t.2.1 z = Af al z := fun z hz => by rw [x3, Af_snoc, if_neg (by omega)]
        have haf2 : Af t.2.1 i = x := by rw [x3, Af_snoc, if_pos (by omega)]
        have hcs : ∀ j, cnt (Af t.2.1) 0 (i + 1) j = cnt (Af al) 0 i j + (if x = (j : Int) then 1 else 0) := fun j => by
          unfold cnt
          rw [sumR_snoc, Nat.zero_add, haf2]
          congr 1
          exact sumR_congr i 0 (fun z _ hz => by rw [haf z (by omega)])
        have hcc : costA (Cf p) p.fPenalty (Af t.2.1) 0 (i + 1) = costA (Cf p) p.fPenalty (Af al) 0 i + cst (Cf p) p.fPenalty i x := by
          unfold costA
          rw [sumR_snoc, Nat.zero_add, haf2]
          congr 1
          exact sumR_congr i 0 (fun z _ hz => by rw [haf z (by omega)])
        refine ⟨_, kk - 1, rfl, by omega, i + 1, t.1, t.2.1, t.2.2, rfl, by omega, by rw [x3]; simp [g2], x4, fun j hj => ?_, fun z hz => ?_, ?_, ?_, fun B hB hBN => ?_⟩
        · have h4 := g4 j hj
          rw [x5 j hj, hcs]
          unfold less
          by_cases hxj : x = (j : Int)
          · have := x1.2.1 j hj hxj
            rw [if_pos hxj]; omega
          · rw [if_neg hxj]; omega
        · by_cases hzi : z = i
          · subst hzi; rw [haf2]; exact x1.1
          · rw [haf z (by omega)]; exact g5 z (by omega)
        · rw [x2]
          exact x1.2.2.congr (fun j hj => (x5 j hj).symm)
        · rw [hcc, x2]; omega
        · rcases g8 B hB hBN with hpre | ⟨z, hz, hw, hlt⟩
          · -- the same so far: what comes now
            have hfit : Fits p (gI R) i left (B i) := by
              have hokB := hB.ok i (by omega) (by omega)
              have hcntB : ∀ j, cnt B 0 i j = cnt (Af al) 0 i j := fun j => sumR_congr i 0 (fun z _ hz => by rw [hpre z (by omega)])
              have hcostB : costA (Cf p) p.fPenalty B 0 i = costA (Cf p) p.fPenalty (Af al) 0 i := sumR_congr i 0 (fun z _ hz => by rw [hpre z (by omega)])
              have hsplitc : ∀ j, cnt B 0 p.fCosts.length j = cnt B 0 i j + cnt B i (p.fCosts.length - i) j := fun j => by
                unfold cnt
                have := sumR_split (fun z => if B z = (j : Int) then (1 : Int) else 0) i (p.fCosts.length - i) 0
                rw [Nat.zero_add, show i + (p.fCosts.length - i) = p.fCosts.length by omega] at this
                exact this
              have hsplit : costA (Cf p) p.fPenalty B 0 p.fCosts.length = costA (Cf p) p.fPenalty B 0 i + costA (Cf p) p.fPenalty B i (p.fCosts.length - i) := by
                unfold costA
                have := sumR_split (fun z => cst (Cf p) p.fPenalty z (B z)) i (p.fCosts.length - i) 0
                rw [Nat.zero_add, show i + (p.fCosts.length - i) = p.fCosts.length by omega] at this
                exact this
              have hPB : Perm p.fRoom.length (Cf p) B i (p.fCosts.length - i) (gI R) := ⟨fun z h1 h2 => hB.ok z (by omega) (by omega), fun j hj => by
                have := hB.rm j hj
                rw [hsplitc, hcntB] at this
                have := g4 j hj
                omega⟩
              rw [show p.fCosts.length - i = p.fCosts.length - (i + 1) + 1 by omega] at hPB hsplit
              obtain ⟨b1, b2⟩ := hPB.tail
              have hone : ∀ j, j < p.fRoom.length → B i = (j : Int) → 1 ≤ gI R j := fun j hj hx => by
                have := hPB.rm j hj
                rw [cnt_cons, if_pos hx] at this
                have := cnt_nn (A := B) (lo := i + 1) (k := p.fCosts.length - (i + 1)) (j := j)
                omega
              refine ⟨b1, hone, ⟨B, b2, ?_⟩, fun B' hB' => ?_⟩
              · rw [costA_cons] at hsplit; omega
              · obtain ⟨c1, c2⟩ := hB'.cons b1
                have := g6.2 _ (by rw [show p.fCosts.length - i = p.fCosts.length - (i + 1) + 1 by omega]; exact c1)
                rw [show p.fCosts.length - i = p.fCosts.length - (i + 1) + 1 by omega, c2] at this
                omega
            have hge : x ≤ B i := Int.not_lt.1 (fun h => x6 _ h hfit)
            by_cases hBx : B i = x
            · left
              intro z hz
              by_cases hzi : z = i
              · subst hzi; rw [haf2]; exact hBx
              · rw [haf z (by omega)]; exact hpre z (by omega)
            · right
              exact ⟨i, by omega, fun w hw => by rw [haf w hw]; exact hpre w hw, by rw [haf2]; omega⟩
          · right
            exact ⟨z, by omega, fun w hw' => by rw [haf w (by omega)]; exact hw w hw', by rw [haf z hz]; exact hlt⟩) p.fCosts.length FU (N0, [], 0, p.fRoom) ⟨0, N0, [], p.fRoom, rfl, by omega, rfl, rfl, fun j hj => ⟨(hv.rm j hj).1, by simp [cnt, sumR]⟩, fun z hz => by omega, hopt, by simp [costA, sumR], fun B _ _ => .inl (fun z hz => by omega)⟩ (by simp only [FU]; omega)
  obtain ⟨q1, q2, q3, q4⟩ := h2
  refine ⟨t, h1, q1, q2, fun B hB => ?_, fun B hB hc => q4 B hB (by omega), ?_⟩
  · rw [q3]; exact hopt.2 B hB
  · obtain ⟨a, hG, _⟩ := least_ok (room := p.fRoom) (lo := 0) hv rfl (fun j hj => (hv.rm j hj).1) (Nat.zero_le _)
    obtain ⟨v, hct, _⟩ := hG.ct
    have hpm := hG.pm
    rw [Nat.sub_zero] at hct hpm
    refine ⟨v, (hct.least hpm q2).2 ?_⟩
    rw [q3]
    exact hopt.2 _ (by rw [Nat.sub_zero]; exact hpm)
end
end
section
open Go
theorem gI_snoc {al : List Int} {x : Int} {z : Nat} : gI (al ++ [x]) z = if z = al.length then x else gI al z := by
  unfold gI
  simp only [List.getD_eq_getElem?_getD, List.getElem?_append]
  by_cases h : z < al.length
  · rw [if_pos h, if_neg (by omega)]
  · rw [if_neg h]
    by_cases h2 : z = al.length
    · subst h2; simp
    · rw [if_neg h2, List.getElem?_eq_none (by simp; omega), List.getElem?_eq_none (by omega)]
section
variable {p : SProblem} {a : List Int}
/-- What a request pays, but for one lender. -/
def Pays (p : SProblem) (w : Nat → Int) (i : Nat) (but P : Int) : Prop :=
  P ≤ p.fPenalty ∧ (∀ j, j < p.fRoom.length → (j : Int) ≠ but → Cf p i j ≠ -1 → P ≤ Cf p i j + w j) ∧ (P = p.fPenalty ∨ ∃ j, j < p.fRoom.length ∧ (j : Int) ≠ but ∧ Cf p i j ≠ -1 ∧ P = Cf p i j + w j)
theorem pays_ok (hv : VP p) {asks w : List Int} (hw : w.length = p.fRoom.length) (hwr : ∀ j, j < p.fRoom.length → 0 ≤ gI w j ∧ gI w j ≤ 10000) {i : Nat} (hi : i < p.fCosts.length) (but : Int) :
    ∃ P, m_route_Problem_prices_1 FU (i : Int) but p ⟨asks, w⟩ = some P ∧ Pays p (gI w) i but P := by
  have hrow := hv.row i hi
  have hm := hv.r
  have hp1 := hv.p1
  have hp2 := hv.p2
  unfold m_route_Problem_prices_1
  rw [ixC hi, Option.bind_some]
  obtain ⟨P, h1, h2⟩ := iter_inv (σ := Int × Int) (τ := Int) (f := fun s => m_route_Problem_prices_1_L1 FU but ⟨asks, w⟩ (p.fCosts.getD i []) s.1 s.2)
    (I := fun kk s => ∃ (q : Nat) (P : Int), s = (P, (q : Int)) ∧ q + kk = p.fRoom.length ∧ P ≤ p.fPenalty ∧ (∀ j, j < q → (j : Int) ≠ but → Cf p i j ≠ -1 → P ≤ Cf p i j + gI w j) ∧ (P = p.fPenalty ∨ ∃ j, j < p.fRoom.length ∧ (j : Int) ≠ but ∧ Cf p i j ≠ -1 ∧ P = Cf p i j + gI w j))
    (Q := fun P => Pays p (gI w) i but P) (by
      rintro kk s ⟨q, P, rfl, g1, g2, g3, g4⟩
      simp only [m_route_Problem_prices_1_L1]
      by_cases hk : kk = 0
      · right
        exact ⟨P, by rw [decide_eq_false (by omega)]; rfl, g2, fun j hj => g3 j (by omega), g4⟩
      · left
        have hq : q < (p.fCosts.getD i []).length := by omega
        have hco : -1 ≤ gI (p.fCosts.getD i []) q ∧ gI (p.fCosts.getD i []) q ≤ 10000 := hv.co i q hi (by omega)
        have hCf : gI (p.fCosts.getD i []) q = Cf p i q := rfl
        have hwq := hwr q (by omega)
        rw [decide_eq_true (show (q : Int) < ((p.fCosts.getD i []).length : Int) by omega), if_pos rfl, ixG hq, Option.bind_some]
        by_cases hc : (q : Int) ≠ but ∧ gI (p.fCosts.getD i []) q ≠ -1
        · rw [decide_eq_false hc.1, decide_eq_false hc.2]
          simp only [Bool.not_false, Bool.and_self, if_true]
          rw [ixG (show q < w.length by omega)]
          simp only [Option.bind_some]
          rw [w64 (x := gI (p.fCosts.getD i []) q + gI w q) (by omega) (by omega), wadd1 (show q < 12 by omega) (by decide)]
          refine ⟨_, kk - 1, rfl, by omega, q + 1, _, rfl, by omega, by omega, fun j hj hjb hcj => ?_, ?_⟩
          · by_cases hjq : j = q
            · subst hjq; rw [← hCf]; omega
            · have := g3 j (by omega) hjb hcj; omega
          · by_cases hle : P ≤ gI (p.fCosts.getD i []) q + gI w q
            · rw [Int.min_eq_left hle]; exact g4
            · rw [Int.min_eq_right (by omega)]; exact .inr ⟨q, by omega, hc.1, hCf ▸ hc.2, by rw [← hCf]⟩
        · have hf : (!decide ((q : Int) = but) && !decide (gI (p.fCosts.getD i []) q = -1)) = false := by
            by_cases h1 : (q : Int) = but
            · rw [decide_eq_true h1]; rfl
            · have h2 : gI (p.fCosts.getD i []) q = -1 := Classical.not_not.1 (fun h => hc ⟨h1, h⟩)
              rw [decide_eq_true h2]; simp
          rw [hf]
          simp only [Bool.false_eq_true, if_false, Option.bind_some]
          rw [wadd1 (show q < 12 by omega) (by decide)]
          refine ⟨_, kk - 1, rfl, by omega, q + 1, P, rfl, by omega, g2, fun j hj hjb hcj => ?_, g4⟩
          by_cases hjq : j = q
          · subst hjq; exact absurd ⟨hjb, hCf ▸ hcj⟩ hc
          · exact g3 j (by omega) hjb hcj) p.fRoom.length FU (p.fPenalty, 0) ⟨0, p.fPenalty, rfl, by omega, Int.le_refl _, fun j hj => by omega, .inl rfl⟩ (by simp only [FU]; omega)
  exact ⟨P, by rw [h1]; rfl, h2⟩
/-- How many requests the lenders have. -/
theorem prices_L1 (hv : VP p) (ha : a.length = p.fCosts.length) (hP : Perm p.fRoom.length (Cf p) (Af a) 0 p.fCosts.length (gI p.fRoom)) :
    ∃ t, iter FU (fun s => m_route_Problem_prices_L1 FU a s.1 s.2) ((0 : Int), List.replicate p.fRoom.length (0 : Int)) = some t ∧ t.length = p.fRoom.length ∧ ∀ j, j < p.fRoom.length → gI t j = cnt (Af a) 0 p.fCosts.length j := by
  have hc := hv.c
  refine iter_inv (σ := Int × List Int) (τ := List Int) (I := fun kk s => ∃ (i : Nat) (u : List Int), s = ((i : Int), u) ∧ i + kk = p.fCosts.length ∧ u.length = p.fRoom.length ∧ ∀ j, j < p.fRoom.length → gI u j = cnt (Af a) 0 i j)
    (Q := fun t => t.length = p.fRoom.length ∧ ∀ j, j < p.fRoom.length → gI t j = cnt (Af a) 0 p.fCosts.length j) (by
      rintro kk s ⟨i, u, rfl, g1, g2, g3⟩
      simp only [m_route_Problem_prices_L1]
      by_cases hk : kk = 0
      · right
        have e : i = p.fCosts.length := by omega
        exact ⟨u, by rw [decide_eq_false (by omega)]; rfl, g2, fun j hj => by rw [g3 j hj, e]⟩
      · left
        have hi : i < a.length := by omega
        have hcs : ∀ j : Nat, cnt (Af a) 0 (i + 1) j = cnt (Af a) 0 i j + (if Af a i = (j : Int) then 1 else 0) := fun j => by
          unfold cnt; rw [sumR_snoc, Nat.zero_add]
        rw [decide_eq_true (show (i : Int) < (a.length : Int) by omega), if_pos rfl, ixA hi, Option.bind_some, wadd1 (show i < 12 by omega) (by decide)]
        rcases okX_cases (hP.ok i (by omega) (by omega)) with e | ⟨j, e, hj, _⟩
        · rw [e]
          simp only [decide_true, Bool.not_true, Bool.false_eq_true, if_false, Option.bind_some]
          refine ⟨_, kk - 1, rfl, by omega, i + 1, u, rfl, by omega, g2, fun z hz => ?_⟩
          rw [hcs, e, if_neg (by omega), g3 z hz]; omega
        · rw [e, decide_eq_false (show ¬ (j : Int) = -1 by omega)]
          have hcb : 0 ≤ cnt (Af a) 0 i j ∧ cnt (Af a) 0 i j ≤ i := ⟨cnt_nn, by
            have := sumR_le i 0 (f := fun z => if Af a z = (j : Int) then 1 else 0) (g := fun _ => 1) (fun z _ _ => by split <;> omega)
            have e : ∀ (k lo : Nat), sumR (fun _ => 1) lo k = k := by
              intro k
              induction k with
              | zero => intro lo; rfl
              | succ k ih => intro lo; rw [sumR, ih]; omega
            rw [e] at this
            exact this⟩
          simp only [Bool.not_false, if_true]
          rw [ixG (show j < u.length by omega)]
          simp only [Option.bind_some]
          rw [g3 j hj, w64 (by omega) (by omega), setG (by omega), Option.bind_some, Option.bind_some]
          refine ⟨_, kk - 1, rfl, by omega, i + 1, _, rfl, by omega, by simp [g2], fun z hz => ?_⟩
          rw [gI_set (by omega), hcs, e]
          by_cases hjz : j = z
          · subst hjz; rw [if_pos rfl, if_pos rfl]
          · rw [if_neg hjz, if_neg (by omega), g3 z hz]; omega) p.fCosts.length FU (0, List.replicate p.fRoom.length 0) ⟨0, _, rfl, by omega, by simp, fun j hj => by rw [gI_rep hj]; rfl⟩ (by simp only [FU]; omega)
theorem prices_L2 (hv : VP p) {u : List Int} (hu : u.length = p.fRoom.length) :
    ∃ t, iter FU (fun s => m_route_Problem_prices_L2 FU p u s.1 s.2) ((0 : Int), []) = some t ∧ t.length = p.fRoom.length ∧ ∀ j, j < p.fRoom.length → gI t j = if gI u j < gI p.fRoom j then 0 else p.fPenalty := by
  have hm := hv.r
  refine iter_inv (σ := Int × List Int) (τ := List Int) (I := fun kk s => ∃ (i : Nat) (w : List Int), s = ((i : Int), w) ∧ i + kk = p.fRoom.length ∧ w.length = i ∧ ∀ j, j < i → gI w j = if gI u j < gI p.fRoom j then 0 else p.fPenalty)
    (Q := fun t => t.length = p.fRoom.length ∧ ∀ j, j < p.fRoom.length → gI t j = if gI u j < gI p.fRoom j then 0 else p.fPenalty) (by
      rintro kk s ⟨i, w, rfl, g1, g2, g3⟩
      simp only [m_route_Problem_prices_L2]
      by_cases hk : kk = 0
      · right
        exact ⟨w, by rw [decide_eq_false (by omega)]; rfl, by omega, fun j hj => g3 j (by omega)⟩
      · left
        have hi : i < p.fRoom.length := by omega
        rw [decide_eq_true (show (i : Int) < (p.fRoom.length : Int) by omega), if_pos rfl, ixG hi, Option.bind_some, ixG (show i < u.length by omega)]
        simp only [Option.bind_some]
        have hx : (if decide (gI u i < gI p.fRoom i) = true then some (0 : Int) else some p.fPenalty) = some (if gI u i < gI p.fRoom i then 0 else p.fPenalty) := by
          by_cases h : gI u i < gI p.fRoom i
          · rw [decide_eq_true h, if_pos rfl, if_pos h]
          · rw [decide_eq_false h, if_neg (by decide), if_neg h]
        rw [hx, Option.bind_some, app_some (by decide) (by simp; omega), Option.bind_some, wadd1 (show i < 12 by omega) (by decide)]
        refine ⟨_, kk - 1, rfl, by omega, i + 1, _, rfl, by omega, by simp [g2], fun j hj => ?_⟩
        rw [gI_snoc, g2]
        by_cases hji : j = i
        · subst hji; rw [if_pos rfl]
        · rw [if_neg hji]; exact g3 j (by omega)) p.fRoom.length FU (0, []) ⟨0, [], rfl, by omega, rfl, fun j hj => by omega⟩ (by simp only [FU]; omega)
/-- Prices on the way down to those of a certificate. -/
structure FI (p : SProblem) (a : List Int) (w : Nat → Int) (l : List Int) : Prop where
  len : l.length = p.fRoom.length
  rg : ∀ j, j < p.fRoom.length → w j ≤ gI l j ∧ gI l j ≤ p.fPenalty
  z : ∀ j, j < p.fRoom.length → cnt (Af a) 0 p.fCosts.length j < gI p.fRoom j → gI l j = 0
def Fix (p : SProblem) (a : List Int) (l : List Int) (i : Nat) : Prop :=
  ∀ j : Nat, Af a i = j → Cf p i j + gI l j ≤ p.fPenalty ∧ ∀ y, y < p.fRoom.length → Cf p i y ≠ -1 → Cf p i j + gI l j ≤ Cf p i y + gI l y
def sumL (p : SProblem) (l : List Int) : Int := sumR (gI l) 0 p.fRoom.length
theorem prices_L4 (hv : VP p) {w : Nat → Int} (ha : a.length = p.fCosts.length) (hP : Perm p.fRoom.length (Cf p) (Af a) 0 p.fCosts.length (gI p.fRoom)) (hw : Cert p.fRoom.length (Cf p) p.fPenalty w (Af a) 0 p.fCosts.length (gI p.fRoom)) {l : List Int} (hF : FI p a w l) :
    ∃ t : Bool × List Int, iter FU (fun s => m_route_Problem_prices_L4 FU p a s.1 s.2.1 s.2.2) (false, (0 : Int), l) = some t ∧ FI p a w t.2 ∧ (t.1 = false → ∀ i, i < p.fCosts.length → Fix p a t.2 i) ∧ (t.1 = true → sumL p t.2 < sumL p l) := by
  have hc := hv.c
  have hp1 := hv.p1
  have hp2 := hv.p2
  refine iter_inv (σ := Bool × Int × List Int) (τ := Bool × List Int) (I := fun kk s => ∃ (i : Nat) (ch : Bool) (u : List Int), s = (ch, (i : Int), u) ∧ i + kk = p.fCosts.length ∧ FI p a w u ∧ (ch = false → u = l ∧ ∀ z, z < i → Fix p a u z) ∧ (ch = true → sumL p u < sumL p l) ∧ sumL p u ≤ sumL p l)
    (Q := fun t : Bool × List Int => FI p a w t.2 ∧ (t.1 = false → ∀ i, i < p.fCosts.length → Fix p a t.2 i) ∧ (t.1 = true → sumL p t.2 < sumL p l)) (by
      rintro kk s ⟨i, ch, u, rfl, g1, g2, g3, g4, g5⟩
      simp only [m_route_Problem_prices_L4]
      by_cases hk : kk = 0
      · right
        have e : i = p.fCosts.length := by omega
        subst e
        exact ⟨(ch, u), by rw [decide_eq_false (by omega)]; rfl, g2, fun h => (g3 h).2, g4⟩
      · left
        have hi : i < a.length := by omega
        have hin : i < p.fCosts.length := by omega
        rw [decide_eq_true (show (i : Int) < (a.length : Int) by omega), if_pos rfl, ixA hi, Option.bind_some, wadd1 (show i < 12 by omega) (by decide)]
        rcases okX_cases (hP.ok i (by omega) (by omega)) with e | ⟨j, e, hj, hcj⟩
        · rw [e]
          simp only [decide_true, if_true, Option.bind_some]
          refine ⟨_, kk - 1, rfl, by omega, i + 1, ch, u, rfl, by omega, g2, fun h => ⟨(g3 h).1, fun z hz => ?_⟩, g4, g5⟩
          by_cases hzi : z = i
          · subst hzi; intro y hy; rw [e] at hy; omega
          · exact (g3 h).2 z (by omega)
        · rw [e, decide_eq_false (show ¬ (j : Int) = -1 by omega)]
          simp only [Bool.false_eq_true, if_false]
          have hur : ∀ y, y < p.fRoom.length → 0 ≤ gI u y ∧ gI u y ≤ 10000 := fun y hy => by
            have := g2.rg y hy
            have := hw.nn y hy
            omega
          obtain ⟨P, P1, P2, P3, P4⟩ := pays_ok hv (asks := []) g2.len hur hin (j : Int)
          have hco : -1 ≤ gI (p.fCosts.getD i []) j ∧ gI (p.fCosts.getD i []) j ≤ 10000 := hv.co i j hin hj
          have hCf : gI (p.fCosts.getD i []) j = Cf p i j := rfl
          have huj := hur j hj
          -- not less than what the certificate says
          have hlow : w j ≤ P - Cf p i j := by
            have t := hw.ti i (by omega) (by omega)
            rw [e, cst_j, tak_j] at t
            rcases P4 with h | ⟨y, hy, hyj, hcy, h⟩
            · have := t (-1) (.inl rfl)
              rw [cst_n, tak_n] at this; omega
            · have := t (y : Int) (okX_j hy hcy)
              rw [cst_j, tak_j] at this
              have := (g2.rg y hy).1
              omega
          have hwj := hw.nn j hj
          rw [show (⟨p.fCosts, p.fRoom, p.fPenalty⟩ : SProblem) = p from rfl, P1, Option.bind_some, ixC hin, Option.bind_some, ixG (by rw [hv.row i hin]; exact hj), Option.bind_some, ixG (by rw [g2.len]; exact hj)]
          simp only [Option.bind_some]
          rw [w64 (x := P - gI (p.fCosts.getD i []) j) (by omega) (by omega)]
          by_cases hlt : P - gI (p.fCosts.getD i []) j < gI u j
          · simp only [hlt, decide_true, if_true]
            rw [setG (by rw [g2.len]; exact hj)]
            simp only [Option.bind_some]
            have hg : ∀ y, gI (u.set j (P - gI (p.fCosts.getD i []) j)) y = if j = y then P - gI (p.fCosts.getD i []) j else gI u y := fun y => gI_set (by rw [g2.len]; exact hj)
            have hsum : sumL p (u.set j (P - gI (p.fCosts.getD i []) j)) < sumL p u := by
              unfold sumL
              rw [sumR_upd (r := j) (by omega) (by omega) (f := gI u) (fun y _ _ hy => by rw [hg, if_neg (Ne.symm hy)]), hg, if_pos rfl]
              omega
            refine ⟨_, kk - 1, rfl, by omega, i + 1, true, _, rfl, by omega, ⟨by simp [g2.len], fun y hy => ?_, fun y hy hcn => ?_⟩, fun h => (Bool.noConfusion h), fun _ => by omega, by omega⟩
            · rw [hg]
              by_cases hjy : j = y
              · subst hjy; rw [if_pos rfl]
                have := (g2.rg j hj).2
                rw [hCf] at hlt ⊢; omega
              · rw [if_neg hjy]; exact g2.rg y hy
            · rw [hg]
              by_cases hjy : j = y
              · subst hjy
                have := g2.z j hj hcn
                rw [hCf] at hlt; omega
              · rw [if_neg hjy]; exact g2.z y hy hcn
          · simp only [hlt, decide_false, Bool.false_eq_true, if_false, Option.bind_some]
            refine ⟨_, kk - 1, rfl, by omega, i + 1, ch, u, rfl, by omega, g2, fun h => ⟨(g3 h).1, fun z hz => ?_⟩, g4, g5⟩
            by_cases hzi : z = i
            · subst hzi
              intro j' hj'
              obtain rfl : j = j' := by rw [e] at hj'; omega
              refine ⟨by rw [hCf] at hlt; omega, fun y hy hcy => ?_⟩
              by_cases hyj : (y : Int) = (j : Int)
              · obtain rfl : y = j := by omega
                exact Int.le_refl _
              · have := P3 y hy hyj hcy
                rw [hCf] at hlt; omega
            · exact (g3 h).2 z (by omega)) p.fCosts.length FU (false, 0, l) ⟨0, false, l, rfl, by omega, hF, fun _ => ⟨rfl, fun z hz => by omega⟩, fun h => Bool.noConfusion h, Int.le_refl _⟩ (by simp only [FU]; omega)
theorem sumL_bound (hv : VP p) {w : Nat → Int} {l : List Int} (hw : ∀ j, j < p.fRoom.length → 0 ≤ w j) (hF : FI p a w l) : 0 ≤ sumL p l ∧ sumL p l ≤ 120000 := by
  have hm := hv.r
  have hp2 := hv.p2
  refine ⟨sumR_nn _ _ (fun j _ hj => by have := hw j (by omega); have := (hF.rg j (by omega)).1; omega), ?_⟩
  have := sumR_le p.fRoom.length 0 (f := gI l) (g := fun _ => 10000) (fun j _ hj => by have := (hF.rg j (by omega)).2; omega)
  have e : ∀ (k lo : Nat), sumR (fun _ => (10000 : Int)) lo k = 10000 * k := by
    intro k
    induction k with
    | zero => intro lo; rfl
    | succ k ih => intro lo; rw [sumR, ih]; omega
  rw [e] at this
  unfold sumL; omega
/-- The prices of a best assignment. -/
structure Tight (p : SProblem) (a : List Int) (x : SPrices) : Prop where
  l1 : x.fAsks.length = p.fCosts.length
  l2 : x.fLenders.length = p.fRoom.length
  r : ∀ j, j < p.fRoom.length → 0 ≤ gI x.fLenders j ∧ gI x.fLenders j ≤ 10000
  u : ∀ i, i < p.fCosts.length → gI x.fAsks i = cst (Cf p) p.fPenalty i (Af a i) + tak (gI x.fLenders) (Af a i)
  c : Cert p.fRoom.length (Cf p) p.fPenalty (gI x.fLenders) (Af a) 0 p.fCosts.length (gI p.fRoom)
theorem prices_ok (hv : VP p) (ha : a.length = p.fCosts.length) (hP : Perm p.fRoom.length (Cf p) (Af a) 0 p.fCosts.length (gI p.fRoom)) {v : Nat → Int} (hct : Cert p.fRoom.length (Cf p) p.fPenalty v (Af a) 0 p.fCosts.length (gI p.fRoom)) :
    ∃ x, m_route_Problem_prices FU p a = some x ∧ Tight p a x := by
  have hm := hv.r
  have hc := hv.c
  have hp1 := hv.p1
  have hp2 := hv.p2
  -- the certificate, no price of which is greater than the penalty
  obtain ⟨w, hwle, hw⟩ : ∃ w : Nat → Int, (∀ j, w j ≤ p.fPenalty) ∧ Cert p.fRoom.length (Cf p) p.fPenalty w (Af a) 0 p.fCosts.length (gI p.fRoom) := by
    refine ⟨fun j => min (v j) p.fPenalty, fun j => Int.min_le_right _ _, fun j hj => ?_, fun j hj hcn => ?_, fun i h1 h2 y hy => ?_⟩
    · have := hct.nn j hj
      show 0 ≤ min (v j) p.fPenalty
      omega
    · have := hct.sl j hj hcn
      show min (v j) p.fPenalty = 0
      omega
    · have h3 := hct.ti i h1 h2 y hy
      have h4 := hct.ti i h1 h2 (-1) (.inl rfl)
      have h5 := cst_bound hv (by omega) (hP.ok i h1 h2)
      have h6 := cst_bound hv (by omega) hy
      rw [cst_n, tak_n] at h4
      have e1 : tak (fun j => min (v j) p.fPenalty) (Af a i) = tak v (Af a i) := by
        rcases okX_cases (hP.ok i h1 h2) with e | ⟨j, e, hj, _⟩
        · rw [e]; rfl
        · rw [e, tak_j] at h4
          rw [e, tak_j, tak_j]
          rw [e] at h5
          show min (v j) p.fPenalty = v j
          omega
      rw [e1]
      rcases okX_cases hy with e | ⟨z, e, hz, _⟩
      · subst e; rw [cst_n, tak_n] at h3 ⊢; exact h3
      · subst e
        rw [cst_j, tak_j] at h3 ⊢
        rw [cst_j] at h6
        show _ ≤ Cf p i z + min (v z) p.fPenalty
        omega
  unfold m_route_Problem_prices
  rw [mkL_some (by decide) (by omega) (by omega), Option.bind_some, Int.toNat_natCast]
  obtain ⟨u, u1, u2, u3⟩ := prices_L1 hv ha hP
  rw [u1, Option.bind_some]
  obtain ⟨l0, l1, l2, l3⟩ := prices_L2 hv u2
  rw [l1, Option.bind_some]
  have hF0 : FI p a w l0 := by
    refine ⟨l2, fun j hj => ?_, fun j hj hcn => ?_⟩
    · rw [l3 j hj, u3 j hj]
      have := hwle j
      split
      · rename_i h
        have := hw.sl j hj h
        omega
      · omega
    · rw [l3 j hj, u3 j hj, if_pos hcn]
  obtain ⟨l, t1, t2, t3⟩ := iter_inv (σ := Bool × List Int) (τ := List Int) (f := fun s => m_route_Problem_prices_L3 FU p a s.1 s.2)
    (I := fun kk s => FI p a w s.2 ∧ ((s.1 = true ∧ (kk : Int) = sumL p s.2 + 1) ∨ (s.1 = false ∧ ∀ i, i < p.fCosts.length → Fix p a s.2 i)))
    (Q := fun l => FI p a w l ∧ ∀ i, i < p.fCosts.length → Fix p a l i) (by
      rintro kk ⟨ch, l⟩ ⟨g1, g2⟩
      dsimp only at g1 g2
      simp only [m_route_Problem_prices_L3]
      rcases g2 with ⟨rfl, g2⟩ | ⟨rfl, g2⟩
      · left
        obtain ⟨⟨ch', l'⟩, s1, s2, s3, s4⟩ := prices_L4 hv ha hP hw g1
        dsimp only at s2 s3 s4
        have b := sumL_bound hv hw.nn s2
        have b0 := sumL_bound hv hw.nn g1
        simp only [if_true]
        rw [s1, Option.bind_some]
        cases ch' with
        | true => exact ⟨_, (sumL p l' + 1).toNat, rfl, by have := s4 rfl; omega, s2, .inl ⟨rfl, by dsimp only; omega⟩⟩
        | false => exact ⟨_, 0, rfl, by omega, s2, .inr ⟨rfl, s3 rfl⟩⟩
      · right
        exact ⟨l, rfl, g1, g2⟩) (sumL p l0 + 1).toNat FU (true, l0) ⟨hF0, .inl ⟨rfl, by have := sumL_bound hv hw.nn hF0; dsimp only; omega⟩⟩ (by have := sumL_bound hv hw.nn hF0; simp only [FU]; omega)
  rw [t1, Option.bind_some]
  have hlr : ∀ j, j < p.fRoom.length → 0 ≤ gI l j ∧ gI l j ≤ 10000 := fun j hj => by
    have := t2.rg j hj
    have := hw.nn j hj
    omega
  -- every request pays the least
  have hcert : Cert p.fRoom.length (Cf p) p.fPenalty (gI l) (Af a) 0 p.fCosts.length (gI p.fRoom) := by
    refine ⟨fun j hj => (hlr j hj).1, fun j hj hcn => t2.z j hj hcn, fun i h1 h2 y hy => ?_⟩
    rcases okX_cases (hP.ok i h1 h2) with e | ⟨j, e, hj, _⟩
    · have h3 := hw.ti i h1 h2 y hy
      rw [e, cst_n, tak_n] at h3 ⊢
      rcases okX_cases hy with e' | ⟨z, e', hz, _⟩
      · subst e'; exact Int.le_refl _
      · subst e'
        rw [cst_j, tak_j] at h3 ⊢
        have := (t2.rg z hz).1
        omega
    · have h3 := t3 i (by omega) j e
      rw [e, cst_j, tak_j]
      rcases okX_cases hy with e' | ⟨z, e', hz, hcz⟩
      · subst e'; rw [cst_n, tak_n]; omega
      · subst e'; rw [cst_j, tak_j]; exact h3.2 z hz hcz
  obtain ⟨us, v1, v2, v3⟩ := iter_inv (σ := Int × List Int) (τ := List Int) (f := fun s => m_route_Problem_prices_L5 FU p l s.1 s.2)
    (I := fun kk s => ∃ (i : Nat) (us : List Int), s = ((i : Int), us) ∧ i + kk = p.fCosts.length ∧ us.length = i ∧ ∀ z, z < i → gI us z = cst (Cf p) p.fPenalty z (Af a z) + tak (gI l) (Af a z))
    (Q := fun us => us.length = p.fCosts.length ∧ ∀ z, z < p.fCosts.length → gI us z = cst (Cf p) p.fPenalty z (Af a z) + tak (gI l) (Af a z)) (by
      rintro kk s ⟨i, us, rfl, g1, g2, g3⟩
      simp only [m_route_Problem_prices_L5]
      by_cases hk : kk = 0
      · right
        exact ⟨us, by rw [decide_eq_false (by omega)]; rfl, by omega, fun z hz => g3 z (by omega)⟩
      · left
        have hi : i < p.fCosts.length := by omega
        obtain ⟨P, P1, P2, P3, P4⟩ := pays_ok hv (asks := us) t2.len hlr hi (-1)
        have hPv : P = cst (Cf p) p.fPenalty i (Af a i) + tak (gI l) (Af a i) := by
          have hti := hcert.ti i (by omega) (by omega)
          have hok := hP.ok i (by omega) (by omega)
          refine Int.le_antisymm ?_ ?_
          · rcases okX_cases hok with e | ⟨j, e, hj, hcj⟩
            · rw [e, cst_n, tak_n]; omega
            · rw [e, cst_j, tak_j]; exact P3 j hj (by omega) hcj
          · rcases P4 with h | ⟨y, hy, _, hcy, h⟩
            · have := hti (-1) (.inl rfl)
              rw [cst_n, tak_n] at this; omega
            · have := hti (y : Int) (okX_j hy hcy)
              rw [cst_j, tak_j] at this; omega
        rw [decide_eq_true (show (i : Int) < (p.fCosts.length : Int) by omega), if_pos rfl, show (⟨p.fCosts, p.fRoom, p.fPenalty⟩ : SProblem) = p from rfl, P1, Option.bind_some, app_some (by decide) (by simp; omega), Option.bind_some, wadd1 (show i < 12 by omega) (by decide)]
        refine ⟨_, kk - 1, rfl, by omega, i + 1, _, rfl, by omega, by simp [g2], fun j hj => ?_⟩
        rw [gI_snoc, g2]
        by_cases hji : j = i
        · subst hji; rw [if_pos rfl, hPv]
        · rw [if_neg hji]; exact g3 j (by omega)) p.fCosts.length FU (0, []) ⟨0, [], rfl, by omega, rfl, fun j hj => by omega⟩ (by simp only [FU]; omega)
  rw [v1, Option.bind_some]
  exact ⟨_, rfl, v2, t2.len, hlr, v3, hcert⟩
end
end
section
open Go
section
variable {p : SProblem} {a : List Int} {x : SPrices}
def PermA (p : SProblem) (a : List Int) : Prop := a.length = p.fCosts.length ∧ Perm p.fRoom.length (Cf p) (Af a) 0 p.fCosts.length (gI p.fRoom)
theorem cnt_mono {A : Nat → Int} {i n j : Nat} (h : i ≤ n) : cnt A 0 i j ≤ cnt A 0 n j := by
  have := sumR_split (fun z => if A z = (j : Int) then (1 : Int) else 0) i (n - i) 0
  rw [Nat.zero_add, show i + (n - i) = n by omega] at this
  have h2 := cnt_nn (A := A) (lo := i) (k := n - i) (j := j)
  unfold cnt at *
  omega
theorem cnt_le {A : Nat → Int} {lo k j : Nat} : cnt A lo k j ≤ k := by
  have := sumR_le k lo (f := fun z => if A z = (j : Int) then 1 else 0) (g := fun _ => 1) (fun z _ _ => by split <;> omega)
  have e : ∀ (k lo : Nat), sumR (fun _ => 1) lo k = k := by
    intro k
    induction k with
    | zero => intro lo; rfl
    | succ k ih => intro lo; rw [sumR, ih]; omega
  rw [e] at this
  exact this
theorem cost_loop (hv : VP p) (ha : a.length = p.fCosts.length) :
    ∃ t : (Int × Bool) ⊕ (Int × List Int), iter FU (fun s => m_route_Problem_cost_L1 FU p a s.1 s.2.1 s.2.2) ((0 : Int), (0 : Int), List.replicate p.fRoom.length (0 : Int)) = some t ∧
      Sum.elim (fun u => u = (0, false) ∧ ¬ Perm p.fRoom.length (Cf p) (Af a) 0 p.fCosts.length (gI p.fRoom)) (fun u => Perm p.fRoom.length (Cf p) (Af a) 0 p.fCosts.length (gI p.fRoom) ∧ u.1 = costA (Cf p) p.fPenalty (Af a) 0 p.fCosts.length) t := by
  have hc := hv.c
  have hm := hv.r
  have hp1 := hv.p1
  have hp2 := hv.p2
  refine iter_inv (σ := Int × Int × List Int) (I := fun kk s => ∃ (i : Nat) (u : List Int), s = (costA (Cf p) p.fPenalty (Af a) 0 i, (i : Int), u) ∧ i + kk = p.fCosts.length ∧ u.length = p.fRoom.length ∧ (∀ j, j < p.fRoom.length → gI u j = cnt (Af a) 0 i j) ∧ Perm p.fRoom.length (Cf p) (Af a) 0 i (gI p.fRoom))
    (Q := fun t => Sum.elim (fun u => u = ((0 : Int), false) ∧ ¬ Perm p.fRoom.length (Cf p) (Af a) 0 p.fCosts.length (gI p.fRoom)) (fun u : Int × List Int => Perm p.fRoom.length (Cf p) (Af a) 0 p.fCosts.length (gI p.fRoom) ∧ u.1 = costA (Cf p) p.fPenalty (Af a) 0 p.fCosts.length) t) (by
      rintro kk s ⟨i, u, rfl, g1, g2, g3, g4⟩
      simp only [m_route_Problem_cost_L1]
      by_cases hk : kk = 0
      · right
        have e : i = p.fCosts.length := by omega
        subst e
        exact ⟨.inr _, by rw [decide_eq_false (by omega)]; rfl, g4, rfl⟩
      · have hi : i < a.length := by omega
        have hin : i < p.fCosts.length := by omega
        have hcs : ∀ j : Nat, cnt (Af a) 0 (i + 1) j = cnt (Af a) 0 i j + (if Af a i = (j : Int) then 1 else 0) := fun j => by
          unfold cnt; rw [sumR_snoc, Nat.zero_add]
        have hcc : costA (Cf p) p.fPenalty (Af a) 0 (i + 1) = costA (Cf p) p.fPenalty (Af a) 0 i + cst (Cf p) p.fPenalty i (Af a i) := by
          unfold costA; rw [sumR_snoc, Nat.zero_add]
        have hb := costA_bound hv (A := Af a) i (show 0 + i ≤ p.fCosts.length by omega) g4.ok
        have hext : okX p.fRoom.length (Cf p) i (Af a i) → (∀ j, j < p.fRoom.length → cnt (Af a) 0 (i + 1) j ≤ gI p.fRoom j) → Perm p.fRoom.length (Cf p) (Af a) 0 (i + 1) (gI p.fRoom) := fun h1 h2 => ⟨fun z hz hz2 => by
          by_cases hzi : z = i
          · subst hzi; exact h1
          · exact g4.ok z hz (by omega), h2⟩
        rw [decide_eq_true (show (i : Int) < (a.length : Int) by omega), if_pos rfl, ixA hi, Option.bind_some, wadd1 (show i < 12 by omega) (by decide)]
        by_cases hn : Af a i = -1
        · left
          rw [hn]
          simp only [decide_true, if_true, Option.bind_some]
          rw [w64 (by omega) (by omega)]
          refine ⟨_, kk - 1, rfl, by omega, i + 1, u, by rw [hcc, hn, cst_n], by omega, g2, fun j hj => by rw [hcs, hn, if_neg (by omega), g3 j hj]; omega, hext (.inl hn) (fun j hj => by rw [hcs, hn, if_neg (by omega)]; have := g4.rm j hj; omega)⟩
        · simp only [hn, decide_false, Bool.false_eq_true, if_false]
          have hin2 : m_route_in FU (Af a i) 0 (IntKind.i64.wrap ((p.fRoom.length : Int) - 1)) = some (inZ (Af a i) 0 ((p.fRoom.length : Int) - 1)) := by
            rw [w64 (by omega) (by omega)]; rfl
          rw [hin2, Option.bind_some]
          cases hz : inZ (Af a i) 0 ((p.fRoom.length : Int) - 1) with
          | false =>
            right
            refine ⟨.inl (0, false), by simp, rfl, fun hP => ?_⟩
            rcases okX_cases (hP.ok i (by omega) (by omega)) with e | ⟨j, e, hj, _⟩
            · exact hn e
            · rw [e] at hz
              have : inZ (j : Int) 0 ((p.fRoom.length : Int) - 1) = true := inZ_t.2 (by omega)
              rw [hz] at this; cases this
          | true =>
            have hz := inZ_t.1 hz
            obtain ⟨j, hj⟩ := Int.eq_ofNat_of_zero_le hz.1
            have hjm : j < p.fRoom.length := by omega
            have hco : -1 ≤ gI (p.fCosts.getD i []) j ∧ gI (p.fCosts.getD i []) j ≤ 10000 := hv.co i j hin hjm
            have hCf : gI (p.fCosts.getD i []) j = Cf p i j := rfl
            rw [hj]
            simp only [Bool.not_true, Bool.not_false, if_true, Bool.false_or]
            rw [ixC hin, Option.bind_some, ixG (by rw [hv.row i hin]; exact hjm)]
            simp only [Option.bind_some]
            by_cases hcj : gI (p.fCosts.getD i []) j = -1
            · right
              refine ⟨.inl (0, false), by simp [-List.getD_eq_getElem?_getD, hcj], rfl, fun hP => ?_⟩
              rcases okX_cases (hP.ok i (by omega) (by omega)) with e | ⟨y, e, _, hcy⟩
              · exact hn e
              · obtain rfl : j = y := by omega
                exact hcy (hCf ▸ hcj)
            · simp only [hcj, decide_false, Bool.not_false, if_true, Bool.false_or]
              rw [ixG (show j < u.length by omega), ixG hjm]
              simp only [Option.bind_some]
              have huj := g3 j hjm
              have hrm := g4.rm j hjm
              by_cases hful : gI u j = gI p.fRoom j
              · right
                refine ⟨.inl (0, false), by rw [decide_eq_true hful]; rfl, rfl, fun hP => ?_⟩
                have h1 := hP.rm j hjm
                have h2 := cnt_mono (A := Af a) (j := j) (show i + 1 ≤ p.fCosts.length by omega)
                rw [hcs, if_pos hj] at h2
                omega
              · left
                rw [decide_eq_false hful]
                simp only [Bool.false_eq_true, if_false]
                have hle := cnt_le (A := Af a) (lo := 0) (k := i) (j := j)
                have hge := cnt_nn (A := Af a) (lo := 0) (k := i) (j := j)
                rw [w64 (x := gI u j + 1) (by omega) (by omega), setG (by omega)]
                simp only [Option.bind_some]
                rw [ixG (show j < (p.fCosts.getD i []).length by rw [hv.row i hin]; exact hjm)]
                simp only [Option.bind_some]
                rw [w64 (by omega) (by omega)]
                refine ⟨_, kk - 1, rfl, by omega, i + 1, _, by rw [hcc, hj, cst_j], by omega, by simp [g2], fun y hy => ?_, hext (by rw [hj]; exact okX_j hjm (hCf ▸ hcj)) (fun y hy => ?_)⟩
                · rw [gI_set (by omega), hcs, hj]
                  by_cases hjy : j = y
                  · subst hjy; rw [if_pos rfl, if_pos rfl, huj]
                  · rw [if_neg hjy, if_neg (by omega), g3 y hy]; omega
                · have := g4.rm y hy
                  rw [hcs, hj]
                  by_cases hjy : j = y
                  · subst hjy; rw [if_pos rfl]; omega
                  · rw [if_neg (by omega)]; omega) p.fCosts.length FU (0, 0, List.replicate p.fRoom.length 0) ⟨0, _, rfl, by omega, by simp, fun j hj => by rw [gI_rep hj]; rfl, ⟨fun z _ hz => by omega, fun j hj => by simpa [cnt, sumR] using (hv.rm j hj).1⟩⟩ (by simp only [FU]; omega)
theorem cost_spec (hs : Sane p) (hvb : validB p = true) (a : List Int) : ∃ N e, m_route_Cost FU p a = some (N, e) ∧ (e = 0 → PermA p a ∧ N = costA (Cf p) p.fPenalty (Af a) 0 p.fCosts.length) ∧ (PermA p a → e = 0) := by
  have hv := vp_of hvb
  unfold m_route_Cost
  rw [show (⟨p.fCosts, p.fRoom, p.fPenalty⟩ : SProblem) = p from rfl, routeValid hs (by decide), hvb, Option.bind_some]
  simp only [Bool.not_true, Bool.false_eq_true, if_false]
  unfold m_route_Problem_cost
  by_cases ha : a.length = p.fCosts.length
  · rw [decide_eq_true (show (a.length : Int) = (p.fCosts.length : Int) by omega)]
    simp only [Bool.not_true, Bool.false_eq_true, if_false]
    rw [mkL_some (by decide) (by omega) (by have := hv.r; omega), Option.bind_some, Int.toNat_natCast]
    obtain ⟨t, t1, t2⟩ := cost_loop hv ha
    rw [t1, Option.bind_some]
    cases t with
    | inl u =>
      obtain ⟨rfl, h⟩ := t2
      exact ⟨0, 11, rfl, fun h => absurd h (by decide), fun hP => absurd hP.2 h⟩
    | inr u =>
      obtain ⟨h, hu⟩ := t2
      exact ⟨u.1, 0, rfl, fun _ => ⟨⟨ha, h⟩, hu⟩, fun _ => rfl⟩
  · rw [decide_eq_false (show ¬ (a.length : Int) = (p.fCosts.length : Int) by omega)]
    exact ⟨0, 11, rfl, fun h => absurd h (by decide), fun hP => absurd hP.1 ha⟩
/-- Prices that prove a bound. -/
structure Feas (p : SProblem) (x : SPrices) : Prop where
  l1 : x.fAsks.length = p.fCosts.length
  l2 : x.fLenders.length = p.fRoom.length
  r1 : ∀ i, i < p.fCosts.length → -1000000 ≤ gI x.fAsks i ∧ gI x.fAsks i ≤ 1000000
  r2 : ∀ j, j < p.fRoom.length → 0 ≤ gI x.fLenders j ∧ gI x.fLenders j ≤ 1000000
  pe : ∀ i, i < p.fCosts.length → gI x.fAsks i ≤ p.fPenalty
  co : ∀ i j, i < p.fCosts.length → j < p.fRoom.length → Cf p i j ≠ -1 → gI x.fAsks i ≤ Cf p i j + gI x.fLenders j
def boundA (p : SProblem) (x : SPrices) : Int := sumR (gI x.fAsks) 0 p.fCosts.length - sumR (fun j => gI p.fRoom j * gI x.fLenders j) 0 p.fRoom.length
theorem bound_spec (hs : Sane p) (hvb : validB p = true) (hx1 : x.fAsks.length ≤ ML) (hx2 : x.fLenders.length ≤ ML) :
    ∃ M f, m_route_Bound FU p x = some (M, f) ∧ (f = 0 → Feas p x ∧ M = boundA p x) ∧ (Feas p x → f = 0) := by
  have hv := vp_of hvb
  have hc := hv.c
  have hm := hv.r
  have hp1 := hv.p1
  have hp2 := hv.p2
  unfold m_route_Bound
  rw [show (⟨p.fCosts, p.fRoom, p.fPenalty⟩ : SProblem) = p from rfl, routeValid hs (by decide), hvb, Option.bind_some]
  simp only [Bool.not_true, Bool.false_eq_true, if_false]
  have c1 : m_slices_ContainsFunc_int_intx FU x.fAsks (fun y1 => m_route_Bound_1 FU y1) = some (x.fAsks.any fun c => !inZ c (-1000000) 1000000) :=
    contains_loop FU x.fAsks _ _ (fun y _ => rfl) hx1 (Nat.lt_of_le_of_lt hx1 (by decide))
  have c2 : m_slices_ContainsFunc_int_intx FU x.fLenders (fun y1 => m_route_Bound_1 FU y1) = some (x.fLenders.any fun c => !inZ c (-1000000) 1000000) :=
    contains_loop FU x.fLenders _ _ (fun y _ => rfl) hx2 (Nat.lt_of_le_of_lt hx2 (by decide))
  rw [c1, c2]
  have getm : ∀ (l : List Int) (i : Nat), i < l.length → gI l i ∈ l := fun l i h => by simp [h]
  by_cases hl : x.fAsks.length = p.fCosts.length ∧ x.fLenders.length = p.fRoom.length
  · rw [decide_eq_true (show (x.fAsks.length : Int) = (p.fCosts.length : Int) by omega), decide_eq_true (show (x.fLenders.length : Int) = (p.fRoom.length : Int) by omega)]
    simp only [Bool.not_true, Bool.or_self, Bool.not_false, if_true, Option.bind_some, Bool.false_or]
    cases h1 : x.fAsks.any fun c => !inZ c (-1000000) 1000000 with
    | true =>
      refine ⟨0, 17, by simp, fun h => absurd h (by decide), fun hF => ?_⟩
      obtain ⟨c, hc1, hc2⟩ := List.any_eq_true.1 h1
      obtain ⟨i, hi, rfl⟩ := List.getElem_of_mem hc1
      have := hF.r1 i (by omega)
      have e : gI x.fAsks i = x.fAsks[i] := by simp [hi]
      rw [e] at this
      rw [inZ_t.2 this] at hc2; cases hc2
    | false =>
      simp only [Bool.not_false, if_true, Option.bind_some]
      cases h2 : x.fLenders.any fun c => !inZ c (-1000000) 1000000 with
      | true =>
        refine ⟨0, 17, by simp, fun h => absurd h (by decide), fun hF => ?_⟩
        obtain ⟨c, hc1, hc2⟩ := List.any_eq_true.1 h2
        obtain ⟨i, hi, rfl⟩ := List.getElem_of_mem hc1
        have := hF.r2 i (by omega)
        have e : gI x.fLenders i = x.fLenders[i] := by simp [hi]
        rw [e] at this
        rw [inZ_t.2 (by omega)] at hc2; cases hc2
      | false =>
        simp only [Bool.or_self, Bool.false_eq_true, if_false]
        have q1 : ∀ i, i < p.fCosts.length → -1000000 ≤ gI x.fAsks i ∧ gI x.fAsks i ≤ 1000000 := fun i hi => by
          have := List.any_eq_false.1 h1 _ (getm x.fAsks i (by omega))
          exact inZ_t.1 (by simpa [-List.getD_eq_getElem?_getD] using this)
        have q2 : ∀ j, j < p.fRoom.length → -1000000 ≤ gI x.fLenders j ∧ gI x.fLenders j ≤ 1000000 := fun j hj => by
          have := List.any_eq_false.1 h2 _ (getm x.fLenders j (by omega))
          exact inZ_t.1 (by simpa [-List.getD_eq_getElem?_getD] using this)
        have rb : ∀ j, j < p.fRoom.length → 0 ≤ gI p.fRoom j ∧ gI p.fRoom j ≤ 20 := fun j hj => hv.rm j hj
        -- the lenders
        obtain ⟨t, t1, t2⟩ := iter_inv (σ := Int × Int) (τ := (Int × Int) ⊕ Int) (f := fun s => m_route_Bound_L1 FU p x s.1 s.2)
          (I := fun kk s => ∃ i : Nat, s = (-sumR (fun j => gI p.fRoom j * gI x.fLenders j) 0 i, (i : Int)) ∧ i + kk = p.fRoom.length ∧ (∀ j, j < i → 0 ≤ gI x.fLenders j) ∧ 0 ≤ sumR (fun j => gI p.fRoom j * gI x.fLenders j) 0 i ∧ sumR (fun j => gI p.fRoom j * gI x.fLenders j) 0 i ≤ 20000000 * i)
          (Q := fun t => Sum.elim (fun u => u = ((0 : Int), (17 : Int)) ∧ ¬ ∀ j, j < p.fRoom.length → 0 ≤ gI x.fLenders j) (fun u => u = -sumR (fun j => gI p.fRoom j * gI x.fLenders j) 0 p.fRoom.length ∧ (∀ j, j < p.fRoom.length → 0 ≤ gI x.fLenders j) ∧ -240000000 ≤ u ∧ u ≤ 0) t) (by
            rintro kk s ⟨i, rfl, g1, g2, g3, g4⟩
            simp only [m_route_Bound_L1]
            by_cases hk : kk = 0
            · right
              have e : i = p.fRoom.length := by omega
              subst e
              exact ⟨.inr _, by rw [decide_eq_false (by omega)]; rfl, rfl, g2, by omega, by omega⟩
            · have hi : i < p.fRoom.length := by omega
              rw [decide_eq_true (show (i : Int) < (x.fLenders.length : Int) by omega), if_pos rfl, ixG (show i < x.fLenders.length by omega), Option.bind_some]
              by_cases hneg : gI x.fLenders i < 0
              · right
                exact ⟨.inl (0, 17), by rw [decide_eq_true hneg]; rfl, rfl, fun h => by have := h i hi; omega⟩
              · left
                have hq := q2 i hi
                have hr := rb i hi
                have hmul : 0 ≤ gI p.fRoom i * gI x.fLenders i ∧ gI p.fRoom i * gI x.fLenders i ≤ 20 * 1000000 := ⟨Int.mul_nonneg hr.1 (by omega), Int.mul_le_mul hr.2 hq.2 (by omega) (by decide)⟩
                have hsn : sumR (fun j => gI p.fRoom j * gI x.fLenders j) 0 (i + 1) = sumR (fun j => gI p.fRoom j * gI x.fLenders j) 0 i + gI p.fRoom i * gI x.fLenders i := by rw [sumR_snoc, Nat.zero_add]
                rw [decide_eq_false hneg]
                simp only [Bool.false_eq_true, if_false]
                rw [ixG hi, Option.bind_some, w64 (x := gI p.fRoom i * gI x.fLenders i) (by omega) (by omega), w64 (by omega) (by omega), wadd1 (show i < 12 by omega) (by decide)]
                exact ⟨_, kk - 1, rfl, by omega, i + 1, by rw [hsn]; congr 1; omega, by omega, fun j hj => by
                  by_cases hji : j = i
                  · subst hji; omega
                  · exact g2 j (by omega), by rw [hsn]; omega, by rw [hsn]; omega⟩) p.fRoom.length FU (0, 0) ⟨0, rfl, by omega, fun j hj => by omega, by simp [sumR], by simp [sumR]⟩ (by simp only [FU]; omega)
        rw [t1, Option.bind_some]
        cases t with
        | inl u =>
          obtain ⟨rfl, hno⟩ := t2
          exact ⟨0, 17, rfl, fun h => absurd h (by decide), fun hF => absurd (fun j hj => (hF.r2 j hj).1) hno⟩
        | inr u =>
          obtain ⟨hu, hnn, ub1, ub2⟩ := t2
          -- the requests
          obtain ⟨t, s1, s2⟩ := iter_inv (σ := Int × Int) (τ := (Int × Int) ⊕ Int) (f := fun s => m_route_Bound_L2 FU p x s.1 s.2)
            (I := fun kk s => ∃ i : Nat, s = (u + sumR (gI x.fAsks) 0 i, (i : Int)) ∧ i + kk = p.fCosts.length ∧ (∀ z, z < i → gI x.fAsks z ≤ p.fPenalty ∧ ∀ j, j < p.fRoom.length → Cf p z j ≠ -1 → gI x.fAsks z ≤ Cf p z j + gI x.fLenders j) ∧ -1000000 * (i : Int) ≤ sumR (gI x.fAsks) 0 i ∧ sumR (gI x.fAsks) 0 i ≤ 1000000 * i)
            (Q := fun t => Sum.elim (fun w => w = ((0 : Int), (17 : Int)) ∧ ¬ ∀ z, z < p.fCosts.length → gI x.fAsks z ≤ p.fPenalty ∧ ∀ j, j < p.fRoom.length → Cf p z j ≠ -1 → gI x.fAsks z ≤ Cf p z j + gI x.fLenders j)
              (fun w => w = u + sumR (gI x.fAsks) 0 p.fCosts.length ∧ ∀ z, z < p.fCosts.length → gI x.fAsks z ≤ p.fPenalty ∧ ∀ j, j < p.fRoom.length → Cf p z j ≠ -1 → gI x.fAsks z ≤ Cf p z j + gI x.fLenders j) t) (by
              rintro kk s ⟨i, rfl, g1, g2, g3, g4⟩
              simp only [m_route_Bound_L2]
              by_cases hk : kk = 0
              · right
                have e : i = p.fCosts.length := by omega
                subst e
                exact ⟨.inr _, by rw [decide_eq_false (by omega)]; rfl, rfl, g2⟩
              · have hi : i < p.fCosts.length := by omega
                have hq := q1 i hi
                have hrow := hv.row i hi
                have hsn : sumR (gI x.fAsks) 0 (i + 1) = sumR (gI x.fAsks) 0 i + gI x.fAsks i := by rw [sumR_snoc, Nat.zero_add]
                rw [decide_eq_true (show (i : Int) < (x.fAsks.length : Int) by omega), if_pos rfl, ixG (show i < x.fAsks.length by omega), Option.bind_some]
                by_cases hpe : p.fPenalty < gI x.fAsks i
                · right
                  exact ⟨.inl (0, 17), by rw [decide_eq_true hpe]; rfl, rfl, fun h => by have := (h i hi).1; omega⟩
                · rw [decide_eq_false hpe]
                  simp only [Bool.false_eq_true, if_false]
                  rw [ixC hi, Option.bind_some]
                  rcases iter_scan (f := fun s => m_route_Bound_L3 FU x (gI x.fAsks i) (p.fCosts.getD i []) s) p.fRoom.length (fun j => !decide (Cf p i j = -1) && decide (Cf p i j + gI x.fLenders j < gI x.fAsks i)) (fun _ => .inl (0, 17)) (.inr ()) p.fRoom.length 0 FU 0 (by omega) (fun j hj => by
                    have hco : -1 ≤ gI (p.fCosts.getD i []) j ∧ gI (p.fCosts.getD i []) j ≤ 10000 := hv.co i j hi hj
                    have hqj := q2 j hj
                    simp only [m_route_Bound_L3]
                    rw [decide_eq_true (show (j : Int) < ((p.fCosts.getD i []).length : Int) by omega), if_pos rfl, ixG (show j < (p.fCosts.getD i []).length by omega), Option.bind_some, wadd1 (show j < 12 by omega) (by decide)]
                    by_cases hcj : gI (p.fCosts.getD i []) j = -1
                    · simp [-List.getD_eq_getElem?_getD, hcj]
                    · rw [decide_eq_false hcj]
                      simp only [Bool.not_false, if_true, Bool.true_and]
                      rw [ixG (show j < x.fLenders.length by omega), Option.bind_some, w64 (by omega) (by omega)]
                      split <;> rfl) (by
                      simp only [m_route_Bound_L3]
                      rw [decide_eq_false (by omega)]; rfl) (by simp only [FU]; omega) rfl with ⟨j, _, j2, j3, _, j5⟩ | ⟨j1, j2⟩
                  · right
                    rw [j5]
                    refine ⟨.inl (0, 17), rfl, rfl, fun h => ?_⟩
                    rw [Bool.and_eq_true, Bool.not_eq_true', decide_eq_false_iff_not, decide_eq_true_eq] at j3
                    have := (h i hi).2 j j2 j3.1
                    omega
                  · left
                    rw [j2, Option.bind_some]
                    dsimp only
                    rw [w64 (by omega) (by omega), wadd1 (show i < 12 by omega) (by decide)]
                    refine ⟨_, kk - 1, rfl, by omega, i + 1, by rw [hsn]; congr 1; omega, by omega, fun z hz => ?_, by rw [hsn]; omega, by rw [hsn]; omega⟩
                    by_cases hzi : z = i
                    · subst hzi
                      refine ⟨by omega, fun j hj hcj => ?_⟩
                      have := j1 j (by omega) hj
                      rw [decide_eq_false hcj] at this
                      simp only [Bool.not_false, Bool.true_and, decide_eq_false_iff_not] at this
                      omega
                    · exact g2 z (by omega)) p.fCosts.length FU (u, 0) ⟨0, by simp [sumR], by omega, fun z hz => by omega, by simp [sumR], by simp [sumR]⟩ (by simp only [FU]; omega)
          dsimp only
          rw [s1, Option.bind_some]
          cases t with
          | inl w =>
            obtain ⟨rfl, hno⟩ := s2
            exact ⟨0, 17, rfl, fun h => absurd h (by decide), fun hF => absurd (fun z hz => ⟨hF.pe z hz, fun j hj hcj => hF.co z j hz hj hcj⟩) hno⟩
          | inr w =>
            obtain ⟨hw, hall⟩ := s2
            exact ⟨w, 0, rfl, fun _ => ⟨⟨hl.1, hl.2, q1, fun j hj => ⟨hnn j hj, (q2 j hj).2⟩, fun i hi => (hall i hi).1, fun i j hi hj hcj => (hall i hi).2 j hj hcj⟩, by rw [hw, hu]; unfold boundA; omega⟩, fun _ => rfl⟩
  · refine ⟨0, 17, ?_, fun h => absurd h (by decide), fun hF => absurd ⟨hF.l1, hF.l2⟩ hl⟩
    by_cases e1 : x.fAsks.length = p.fCosts.length
    · rw [decide_eq_true (show (x.fAsks.length : Int) = (p.fCosts.length : Int) by omega), decide_eq_false (show ¬ (x.fLenders.length : Int) = (p.fRoom.length : Int) by omega)]
      rfl
    · rw [decide_eq_false (show ¬ (x.fAsks.length : Int) = (p.fCosts.length : Int) by omega)]
      rfl
/-- No permitted assignment costs less than a bound. -/
theorem weak (hF : Feas p x) {B : Nat → Int} (hB : Perm p.fRoom.length (Cf p) B 0 p.fCosts.length (gI p.fRoom)) : boundA p x ≤ costA (Cf p) p.fPenalty B 0 p.fCosts.length := by
  have e2 := tak_sum (v := gI x.fLenders) hB
  have l1 := sumR_le p.fRoom.length 0 (f := fun j => cnt B 0 p.fCosts.length j * gI x.fLenders j) (g := fun j => gI p.fRoom j * gI x.fLenders j) (fun j _ hj => Int.mul_le_mul_of_nonneg_right (hB.rm j (by omega)) (hF.r2 j (by omega)).1)
  have l2 := sumR_le p.fCosts.length 0 (f := gI x.fAsks) (g := fun i => cst (Cf p) p.fPenalty i (B i) + tak (gI x.fLenders) (B i)) (fun i h1 h2 => by
    rcases okX_cases (hB.ok i h1 h2) with e | ⟨j, e, hj, hcj⟩
    · rw [e, cst_n, tak_n]
      have := hF.pe i (by omega); omega
    · rw [e, cst_j, tak_j]
      exact hF.co i j (by omega) hj hcj)
  have s := sumR_add (fun i => cst (Cf p) p.fPenalty i (B i)) (fun i => tak (gI x.fLenders) (B i)) p.fCosts.length 0
  unfold boundA costA
  omega
theorem Tight.feas (hv : VP p) (ha : PermA p a) (h : Tight p a x) : Feas p x ∧ boundA p x = costA (Cf p) p.fPenalty (Af a) 0 p.fCosts.length := by
  have hle : ∀ i, i < p.fCosts.length → ∀ y, okX p.fRoom.length (Cf p) i y → gI x.fAsks i ≤ cst (Cf p) p.fPenalty i y + tak (gI x.fLenders) y := fun i hi y hy => by
    rw [h.u i hi]; exact h.c.ti i (by omega) (by omega) y hy
  have hp1 := hv.p1
  have hp2 := hv.p2
  refine ⟨⟨h.l1, h.l2, fun i hi => ?_, fun j hj => by have := h.r j hj; omega, fun i hi => ?_, fun i j hi hj hcj => ?_⟩, ?_⟩
  · have hb := cst_bound hv hi (ha.2.ok i (by omega) (by omega))
    have ht : 0 ≤ tak (gI x.fLenders) (Af a i) ∧ tak (gI x.fLenders) (Af a i) ≤ 10000 := by
      rcases okX_cases (ha.2.ok i (by omega) (by omega)) with e | ⟨j, e, hj, _⟩
      · rw [e, tak_n]; omega
      · rw [e, tak_j]; exact h.r j hj
    rw [h.u i hi]; omega
  · have := hle i hi (-1) (.inl rfl)
    rw [cst_n, tak_n] at this; omega
  · have := hle i hi (j : Int) (okX_j hj hcj)
    rw [cst_j, tak_j] at this; exact this
  · have e1 := room_sum ha.2 h.c
    have e2 : sumR (gI x.fAsks) 0 p.fCosts.length = sumR (fun i => cst (Cf p) p.fPenalty i (Af a i) + tak (gI x.fLenders) (Af a i)) 0 p.fCosts.length := sumR_congr _ _ (fun i _ hi => h.u i (by omega))
    have s := sumR_add (fun i => cst (Cf p) p.fPenalty i (Af a i)) (fun i => tak (gI x.fLenders) (Af a i)) p.fCosts.length 0
    unfold boundA costA
    omega
theorem solve_ok (hs : Sane p) (hvb : validB p = true) : ∃ a x, m_route_Solve FU p = some (a, x, 0) ∧ Best p a ∧ Tight p a x := by
  have hv := vp_of hvb
  have hm := hv.r
  unfold m_route_Solve
  rw [show (⟨p.fCosts, p.fRoom, p.fPenalty⟩ : SProblem) = p from rfl, routeValid hs (by decide), hvb, Option.bind_some]
  simp only [Bool.not_true, Bool.false_eq_true, if_false]
  have hcl : m_slices_Clone_int_int FU p.fRoom = some p.fRoom := by
    unfold m_slices_Clone_int_int
    rw [app_some (by decide) (by simp; omega)]; rfl
  obtain ⟨N0, n1, n2⟩ := least_opt (room := p.fRoom) (lo := 0) hv rfl (fun j hj => (hv.rm j hj).1) (Nat.zero_le _)
  obtain ⟨⟨a, R⟩, t1, t2⟩ := solve_L1 hv rfl n2
  dsimp only at t2
  obtain ⟨v, hct⟩ := t2.ct
  obtain ⟨x, x1, x2⟩ := prices_ok hv t2.al t2.pm hct
  rw [hcl, Option.bind_some, show ((0 : Int)) = ((0 : Nat) : Int) from rfl, n1, Option.bind_some]
  rw [show (((0 : Nat) : Int)) = (0 : Int) from rfl, t1, Option.bind_some]
  dsimp only
  rw [x1, Option.bind_some]
  exact ⟨a, x, rfl, t2, x2⟩
/-- What Solve yields is accepted. -/
theorem check_ok (hs : Sane p) (hvb : validB p = true) (hB : Best p a) (hT : Tight p a x) : m_route_Check FU p a x = some 0 ∧ m_route_Cost FU p a = some (costA (Cf p) p.fPenalty (Af a) 0 p.fCosts.length, 0) := by
  have hv := vp_of hvb
  have hc := hv.c
  have hm := hv.r
  have hPA : PermA p a := ⟨hB.al, hB.pm⟩
  obtain ⟨N, e, c1, c2, c3⟩ := cost_spec hs hvb a
  obtain rfl : e = 0 := c3 hPA
  have hN := (c2 rfl).2
  obtain ⟨M, f, b1, b2, b3⟩ := bound_spec (x := x) hs hvb (by rw [hT.l1]; simp only [ML]; omega) (by rw [hT.l2]; simp only [ML]; omega)
  have hF := hT.feas hv hPA
  obtain rfl : f = 0 := b3 hF.1
  have hM := (b2 rfl).2
  refine ⟨?_, by rw [c1, hN]⟩
  unfold m_route_Check
  rw [show (⟨p.fCosts, p.fRoom, p.fPenalty⟩ : SProblem) = p from rfl, show (⟨x.fAsks, x.fLenders⟩ : SPrices) = x from rfl, c1, Option.bind_some]
  simp only [decide_true, Bool.not_true, Bool.false_eq_true, if_false]
  rw [b1, Option.bind_some]
  have : M = N := by rw [hM, hN, hF.2]
  simp [this]
end
end
end Go.Proofs.Yteocmikmbiimcaa.Ab
