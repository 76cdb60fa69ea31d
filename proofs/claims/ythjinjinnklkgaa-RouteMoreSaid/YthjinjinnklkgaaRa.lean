/- Plain laws, joined. Conditions: none. -/
import Derived.Test.YthjinjinnklkgaaNt
import Derived.Test.YthjinjinnklkgaaPa
namespace Go.Proofs.Ythjinjinnklkgaa.Ab
section
/- Assignments of requests to lenders at the least cost: plain laws on sums and certificates. Conditions: none. -/
open Go

/-- The sum over k numbers from lo. -/
def sumR (f : Nat → Int) : Nat → Nat → Int
  | _, 0 => 0
  | lo, k + 1 => f lo + sumR f (lo + 1) k
theorem sumR_congr {f g : Nat → Int} : ∀ (k lo : Nat), (∀ i, lo ≤ i → i < lo + k → f i = g i) → sumR f lo k = sumR g lo k
  | 0, _, _ => rfl
  | k + 1, lo, h => by rw [sumR, sumR, h lo (by omega) (by omega), sumR_congr k (lo + 1) (fun i h1 h2 => h i (by omega) (by omega))]
theorem sumR_le {f g : Nat → Int} : ∀ (k lo : Nat), (∀ i, lo ≤ i → i < lo + k → f i ≤ g i) → sumR f lo k ≤ sumR g lo k
  | 0, _, _ => Int.le_refl _
  | k + 1, lo, h => by
    rw [sumR, sumR]
    have h1 := h lo (by omega) (by omega)
    have h2 := sumR_le k (lo + 1) (fun i h1 h2 => h i (by omega) (by omega))
    omega
theorem sumR_add (f g : Nat → Int) : ∀ (k lo : Nat), sumR (fun i => f i + g i) lo k = sumR f lo k + sumR g lo k
  | 0, _ => rfl
  | k + 1, lo => by rw [sumR, sumR, sumR, sumR_add f g k]; omega
theorem sumR_sub (f g : Nat → Int) : ∀ (k lo : Nat), sumR (fun i => f i - g i) lo k = sumR f lo k - sumR g lo k
  | 0, _ => rfl
  | k + 1, lo => by rw [sumR, sumR, sumR, sumR_sub f g k]; omega
theorem sumR_zero : ∀ (k lo : Nat), sumR (fun _ => 0) lo k = 0
  | 0, _ => rfl
  | k + 1, lo => by rw [sumR, sumR_zero k]; rfl
theorem sumR_snoc (f : Nat → Int) : ∀ (k lo : Nat), sumR f lo (k + 1) = sumR f lo k + f (lo + k)
  | 0, lo => by simp [sumR]
  | k + 1, lo => by
    rw [sumR, sumR_snoc f k (lo + 1), sumR, show lo + 1 + k = lo + (k + 1) by omega]; omega
theorem sumR_nn {f : Nat → Int} : ∀ (k lo : Nat), (∀ i, lo ≤ i → i < lo + k → 0 ≤ f i) → 0 ≤ sumR f lo k := fun k lo h => by
  have := sumR_le k lo h (f := fun _ => 0)
  rwa [sumR_zero] at this
/-- Where a sum of numbers that are not negative is 0, all are. -/
theorem sumR_all0 {f : Nat → Int} : ∀ (k lo : Nat), (∀ i, lo ≤ i → i < lo + k → 0 ≤ f i) → sumR f lo k ≤ 0 → ∀ i, lo ≤ i → i < lo + k → f i = 0
  | 0, lo, _, _, i, h1, h2 => by omega
  | k + 1, lo, h, hs, i, h1, h2 => by
    rw [sumR] at hs
    have a := h lo (by omega) (by omega)
    have b := sumR_nn k (lo + 1) (fun i h1 h2 => h i (by omega) (by omega))
    by_cases hi : i = lo
    · subst hi; omega
    · exact sumR_all0 k (lo + 1) (fun i h1 h2 => h i (by omega) (by omega)) (by omega) i (by omega) (by omega)
theorem sumR_one (x : Int) (j : Nat) : ∀ (k lo : Nat), sumR (fun i => if i = j then x else 0) lo k = if lo ≤ j ∧ j < lo + k then x else 0
  | 0, lo => by rw [if_neg (by omega)]; rfl
  | k + 1, lo => by
    rw [sumR, sumR_one x j k]
    by_cases h : lo = j
    · subst h
      rw [if_pos rfl, if_neg (by omega), if_pos (by omega)]; omega
    · rw [if_neg h]
      by_cases h2 : lo + 1 ≤ j ∧ j < lo + 1 + k
      · rw [if_pos h2, if_pos (by omega)]; omega
      · rw [if_neg h2, if_neg (by omega)]; omega
theorem sumR_swap (f : Nat → Nat → Int) : ∀ (k lo : Nat) (m : Nat), sumR (fun i => sumR (fun j => f i j) 0 m) lo k = sumR (fun j => sumR (fun i => f i j) lo k) 0 m
  | 0, lo, m => by
    simp only [sumR]; exact (sumR_zero m 0).symm
  | k + 1, lo, m => by
    simp only [sumR]
    rw [sumR_swap f k (lo + 1) m, ← sumR_add]
/-- One number is another one. -/
theorem sumR_upd {f g : Nat → Int} {r : Nat} {k lo : Nat} (h1 : lo ≤ r) (h2 : r < lo + k) (h : ∀ i, lo ≤ i → i < lo + k → i ≠ r → g i = f i) : sumR g lo k = sumR f lo k + (g r - f r) := by
  have := sumR_sub g f k lo
  have e : sumR (fun i => g i - f i) lo k = sumR (fun i => if i = r then g r - f r else 0) lo k := sumR_congr k lo (fun i a b => by
    by_cases hi : i = r
    · subst hi; simp
    · rw [if_neg hi, h i a b hi]; omega)
  rw [sumR_one, if_pos ⟨h1, h2⟩] at e
  omega

section
variable (m : Nat) (C : Nat → Nat → Int) (pen : Int)
/-- What a choice costs: nobody, or a lender. -/
def cst (i : Nat) (x : Int) : Int := if x = -1 then pen else C i x.toNat
/-- What a lender takes. -/
def tak (v : Nat → Int) (x : Int) : Int := if x = -1 then 0 else v x.toNat
def okX (i : Nat) (x : Int) : Prop := x = -1 ∨ (0 ≤ x ∧ x < m ∧ C i x.toNat ≠ -1)
/-- How many requests a lender has. -/
def cnt (A : Nat → Int) (lo k j : Nat) : Int := sumR (fun i => if A i = (j : Int) then 1 else 0) lo k
structure Perm (A : Nat → Int) (lo k : Nat) (room : Nat → Int) : Prop where
  ok : ∀ i, lo ≤ i → i < lo + k → okX m C i (A i)
  rm : ∀ j, j < m → cnt A lo k j ≤ room j
def costA (A : Nat → Int) (lo k : Nat) : Int := sumR (fun i => cst C pen i (A i)) lo k
structure Cert (v A : Nat → Int) (lo k : Nat) (room : Nat → Int) : Prop where
  nn : ∀ j, j < m → 0 ≤ v j
  sl : ∀ j, j < m → cnt A lo k j < room j → v j = 0
  ti : ∀ i, lo ≤ i → i < lo + k → ∀ y, okX m C i y → cst C pen i (A i) + tak v (A i) ≤ cst C pen i y + tak v y
end
variable {m : Nat} {C : Nat → Nat → Int} {pen : Int}
theorem cnt_nn {A : Nat → Int} {lo k j : Nat} : 0 ≤ cnt A lo k j := sumR_nn k lo (fun i _ _ => by split <;> omega)
theorem tak_sum {v A : Nat → Int} {room : Nat → Int} {lo k : Nat} (h : Perm m C A lo k room) : sumR (fun i => tak v (A i)) lo k = sumR (fun j => cnt A lo k j * v j) 0 m := by
  have e1 : sumR (fun i => tak v (A i)) lo k = sumR (fun i => sumR (fun j => if A i = (j : Int) then v j else 0) 0 m) lo k := by
    refine sumR_congr k lo (fun i a b => ?_)
    rcases h.ok i a b with hx | ⟨h0, h1, _⟩
    · rw [tak, if_pos hx]
      refine ((sumR_congr m 0 (fun j _ _ => ?_)).trans (sumR_zero m 0)).symm
      rw [hx]; exact if_neg (by omega)
    · rw [tak, if_neg (by omega)]
      have := sumR_one (v (A i).toNat) (A i).toNat m 0
      rw [if_pos (by omega)] at this
      rw [← this]
      refine sumR_congr m 0 (fun j _ _ => ?_)
      by_cases hj : j = (A i).toNat
      · subst hj; rw [if_pos rfl, if_pos (by omega)]
      · rw [if_neg hj, if_neg (by omega)]
  rw [e1, sumR_swap]
  refine sumR_congr m 0 (fun j _ _ => ?_)
  rw [cnt]
  have : ∀ (k lo : Nat), sumR (fun i => if A i = (j : Int) then v j else 0) lo k = sumR (fun i => if A i = (j : Int) then 1 else 0) lo k * v j := by
    intro k
    induction k with
    | zero => intro lo; simp [sumR]
    | succ k ih =>
      intro lo
      rw [sumR, sumR, ih, Int.add_mul]
      split <;> simp
  exact this k lo
theorem room_sum {v A : Nat → Int} {room : Nat → Int} {lo k : Nat} (h : Perm m C A lo k room) (hv : Cert m C pen v A lo k room) : sumR (fun i => tak v (A i)) lo k = sumR (fun j => room j * v j) 0 m := by
  rw [tak_sum h]
  refine sumR_congr m 0 (fun j _ hj => ?_)
  have h1 := h.rm j (by omega)
  by_cases hc : cnt A lo k j < room j
  · rw [hv.sl j (by omega) hc]; simp
  · rw [show cnt A lo k j = room j by omega]
/-- No other assignment costs less than one with a certificate. -/
theorem Cert.least {v A B : Nat → Int} {room : Nat → Int} {lo k : Nat} (hA : Perm m C A lo k room) (hv : Cert m C pen v A lo k room) (hB : Perm m C B lo k room) : costA C pen A lo k ≤ costA C pen B lo k ∧
    (costA C pen B lo k ≤ costA C pen A lo k → Cert m C pen v B lo k room) := by
  have e1 := room_sum hA hv
  have e2 := tak_sum (v := v) hB
  have l1 : 0 ≤ sumR (fun j => room j * v j - cnt B lo k j * v j) 0 m := sumR_nn m 0 (fun j _ hj => by
    rw [← Int.sub_mul]
    have := hB.rm j (by omega)
    exact Int.mul_nonneg (by omega) (hv.nn j (by omega)))
  have l2 : 0 ≤ sumR (fun i => (cst C pen i (B i) + tak v (B i)) - (cst C pen i (A i) + tak v (A i))) lo k := sumR_nn k lo (fun i a b => by
    have := hv.ti i a b (B i) (hB.ok i a b); omega)
  have s1 := sumR_sub (fun j => room j * v j) (fun j => cnt B lo k j * v j) m 0
  have s2 := sumR_sub (fun i => cst C pen i (B i) + tak v (B i)) (fun i => cst C pen i (A i) + tak v (A i)) k lo
  have s3 := sumR_add (fun i => cst C pen i (B i)) (fun i => tak v (B i)) k lo
  have s4 := sumR_add (fun i => cst C pen i (A i)) (fun i => tak v (A i)) k lo
  refine ⟨by unfold costA; omega, fun hle => ?_⟩
  unfold costA at hle
  have z1 := sumR_all0 m 0 (f := fun j => room j * v j - cnt B lo k j * v j) (fun j _ hj => by
    show 0 ≤ room j * v j - cnt B lo k j * v j
    rw [← Int.sub_mul]
    have := hB.rm j (by omega)
    exact Int.mul_nonneg (by omega) (hv.nn j (by omega))) (by omega)
  have z2 := sumR_all0 k lo (f := fun i => (cst C pen i (B i) + tak v (B i)) - (cst C pen i (A i) + tak v (A i))) (fun i a b => by
    have := hv.ti i a b (B i) (hB.ok i a b); omega) (by omega)
  refine ⟨hv.nn, fun j hj hc => ?_, fun i a b y hy => ?_⟩
  · have := z1 j (by omega) (by omega)
    rw [← Int.sub_mul] at this
    rcases Int.mul_eq_zero.1 this with h | h
    · omega
    · exact h
  · have h1 := z2 i a b
    have h2 := hv.ti i a b y hy
    omega
end
section
/- A further request is assigned along a shortest way: plain laws. Conditions: none. -/
open Go

/-- Distances at which nothing can be made less, and the least end. -/
structure Dist (m : Nat) (C : Nat → Nat → Int) (pen : Int) (A : Nat → Int) (lo k : Nat) (room : Nat → Int) (F : Nat → Prop) (d : Nat → Int) (L : Int) : Prop where
  d0 : ∀ j, j < m → C (lo + k) j ≠ -1 → F j ∧ d j ≤ C (lo + k) j
  d1 : ∀ j, j < m → F j → ∀ i, lo ≤ i → i < lo + k → A i = (j : Int) → ∀ y, y < m → C i y ≠ -1 → F y ∧ d y ≤ d j - C i j + C i y
  l0 : L ≤ pen
  l1 : ∀ j, j < m → F j → cnt A lo k j < room j → L ≤ d j
  l2 : ∀ j, j < m → F j → ∀ i, lo ≤ i → i < lo + k → A i = (j : Int) → L ≤ d j - C i j + pen
open Classical in
noncomputable def up (v d : Nat → Int) (F : Nat → Prop) (L : Int) (j : Nat) : Int := if F j ∧ v j ≤ L - d j then L - d j else v j
theorem up_ge {v d : Nat → Int} {F : Nat → Prop} {L : Int} (j : Nat) : v j ≤ up v d F L j ∧ (F j → L - d j ≤ up v d F L j) ∧ (up v d F L j = v j ∨ (F j ∧ up v d F L j = L - d j)) := by
  unfold up
  by_cases h : F j ∧ v j ≤ L - d j
  · rw [if_pos h]; exact ⟨h.2, fun _ => Int.le_refl _, .inr ⟨h.1, rfl⟩⟩
  · rw [if_neg h]; exact ⟨Int.le_refl _, fun hf => by have : ¬ v j ≤ L - d j := fun hc => h ⟨hf, hc⟩; omega, .inl rfl⟩
theorem tak_n {v : Nat → Int} : tak v (-1) = 0 := rfl
theorem tak_j {v : Nat → Int} (j : Nat) : tak v (j : Int) = v j := by unfold tak; rw [if_neg (by omega)]; rfl
theorem cst_n {C : Nat → Nat → Int} {pen : Int} (i : Nat) : cst C pen i (-1) = pen := rfl
theorem cst_j {C : Nat → Nat → Int} {pen : Int} (i j : Nat) : cst C pen i (j : Int) = C i j := by unfold cst; rw [if_neg (by omega)]; rfl
theorem okX_cases {m : Nat} {C : Nat → Nat → Int} {i : Nat} {x : Int} (h : okX m C i x) : x = -1 ∨ ∃ j : Nat, x = j ∧ j < m ∧ C i j ≠ -1 := by
  rcases h with h | ⟨h0, h1, h2⟩
  · exact .inl h
  · exact .inr ⟨x.toNat, by omega, by omega, h2⟩
theorem okX_j {m : Nat} {C : Nat → Nat → Int} {i j : Nat} (h : j < m) (h2 : C i j ≠ -1) : okX m C i (j : Int) := .inr ⟨by omega, by omega, by simpa using h2⟩
section
variable {m : Nat} {C : Nat → Nat → Int} {pen : Int} {A : Nat → Int} {lo k : Nat} {room : Nat → Int} {v d : Nat → Int} {F : Nat → Prop} {L : Int}
theorem up_tight (hA : Perm m C A lo k room) (hv : Cert m C pen v A lo k room) (hD : Dist m C pen A lo k room F d L) {i : Nat} (h1 : lo ≤ i) (h2 : i < lo + k) {y : Int} (hy : okX m C i y) :
    cst C pen i (A i) + tak (up v d F L) (A i) ≤ cst C pen i y + tak (up v d F L) y := by
  have old := hv.ti i h1 h2 y hy
  have mono : tak v y ≤ tak (up v d F L) y := by
    rcases okX_cases hy with rfl | ⟨z, rfl, _, _⟩
    · exact Int.le_refl _
    · rw [tak_j, tak_j]; exact (up_ge z).1
  rcases okX_cases (hA.ok i h1 h2) with ha | ⟨j, ha, hj, hc⟩
  · rw [ha, tak_n] at old ⊢; omega
  · rw [ha, tak_j, cst_j] at old ⊢
    rcases (up_ge (v := v) (d := d) (F := F) (L := L) j).2.2 with e | ⟨hf, e⟩
    · rw [e]; omega
    · rw [e]
      rcases okX_cases hy with rfl | ⟨z, rfl, hz, hcz⟩
      · have := hD.l2 j hj hf i h1 h2 ha
        rw [cst_n, tak_n]; omega
      · have := hD.d1 j hj hf i h1 h2 ha z hz hcz
        have := (up_ge (v := v) (d := d) (F := F) (L := L) z).2.1 this.1
        rw [cst_j, tak_j]; omega
theorem up_slack (hv : Cert m C pen v A lo k room) (hA : Perm m C A lo k room) (hD : Dist m C pen A lo k room F d L) {j : Nat} (hj : j < m) (h : up v d F L j ≠ 0) : cnt A lo k j = room j := by
  have h1 := hA.rm j hj
  refine Int.le_antisymm h1 (Int.not_lt.1 fun hc => h ?_)
  have h0 := hv.sl j hj hc
  rcases (up_ge (v := v) (d := d) (F := F) (L := L) j) with ⟨g1, g2, g3⟩
  rcases g3 with e | ⟨hf, e⟩
  · omega
  · have := hD.l1 j hj hf hc
    omega
theorem up_new (hD : Dist m C pen A lo k room F d L) {y : Int} (hy : okX m C (lo + k) y) : L ≤ cst C pen (lo + k) y + tak (up v d F L) y := by
  rcases okX_cases hy with rfl | ⟨z, rfl, hz, hcz⟩
  · have := hD.l0
    rw [cst_n, tak_n]; omega
  · have h1 := hD.d0 z hz hcz
    have := (up_ge (v := v) (d := d) (F := F) (L := L) z).2.1 h1.1
    rw [cst_j, tak_j]; omega
theorem up_at {j : Nat} (hf : F j) (h : v j ≤ L - d j) : up v d F L j = L - d j := by
  unfold up; rw [if_pos ⟨hf, h⟩]

/-- How a lender is reached: by which request, and from which lender. -/
def Tree (m : Nat) (C : Nat → Nat → Int) (A : Nat → Int) (lo k : Nat) (F : Nat → Prop) (d bk by' : Nat → Int) (h : Nat → Nat) (j : Nat) : Prop :=
  (bk j = -1 ∧ by' j = ((lo + k : Nat) : Int) ∧ d j = C (lo + k) j ∧ C (lo + k) j ≠ -1) ∨
  ∃ j' i : Nat, bk j = j' ∧ by' j = i ∧ j' < m ∧ F j' ∧ lo ≤ i ∧ i < lo + k ∧ A i = j' ∧ C i j ≠ -1 ∧ d j = d j' - C i j' + C i j ∧ h j' < h j
/-- On the way back. -/
structure Mid (m : Nat) (C : Nat → Nat → Int) (pen : Int) (A : Nat → Int) (lo k : Nat) (room : Nat → Int) (F : Nat → Prop) (v d : Nat → Int) (L : Int) (h : Nat → Nat) (B : Nat → Int) (x : Int) : Prop where
  ok : ∀ i, lo ≤ i → i < lo + (k + 1) → okX m C i (B i)
  rs : ∀ y, y < m → cnt B lo (k + 1) y + (if x = (y : Int) then 1 else 0) ≤ room y
  sl : ∀ y, y < m → up v d F L y ≠ 0 → cnt B lo (k + 1) y + (if x = (y : Int) then 1 else 0) = room y
  ti : ∀ i, lo ≤ i → i < lo + (k + 1) → (i ≠ lo + k ∨ x = -1) → ∀ y, okX m C i y → cst C pen i (B i) + tak (up v d F L) (B i) ≤ cst C pen i y + tak (up v d F L) y
  br : x ≠ -1 → B (lo + k) = -1
  hx : ∀ j : Nat, x = j → j < m ∧ F j ∧ v j ≤ L - d j
  hh : ∀ j : Nat, x = j → ∀ i, lo ≤ i → i < lo + k → B i ≠ A i → ∀ z : Nat, A i = z → h j ≤ h z
def updA (B : Nat → Int) (i : Nat) (x : Int) (z : Nat) : Int := if z = i then x else B z
theorem cnt_upd {B : Nat → Int} {i lo k y : Nat} {x : Int} (h1 : lo ≤ i) (h2 : i < lo + k) : cnt (updA B i x) lo k y = cnt B lo k y + ((if x = (y : Int) then 1 else 0) - (if B i = (y : Int) then 1 else 0)) := by
  unfold cnt
  rw [sumR_upd h1 h2 (f := fun i => if B i = (y : Int) then 1 else 0) (fun z _ _ hz => by simp [updA, hz])]
  simp [updA]
theorem Mid.step {h : Nat → Nat} {B bk by' : Nat → Int} {j : Nat} (hA : Perm m C A lo k room) (hv : Cert m C pen v A lo k room) (hD : Dist m C pen A lo k room F d L)
    (hM : Mid m C pen A lo k room F v d L h B (j : Int)) (hT : Tree m C A lo k F d bk by' h j) : 0 ≤ by' j ∧ Mid m C pen A lo k room F v d L h (updA B (by' j).toNat (j : Int)) (bk j) := by
  obtain ⟨hj, hf, hvj⟩ := hM.hx j rfl
  have hup := up_at hf hvj
  have hbr := hM.br (by omega)
  rcases hT with ⟨b1, b2, b3, b4⟩ | ⟨j', i, b1, b2, b3, b4, b5, b6, b7, b8, b9, b10⟩
  · rw [b1, b2, Int.toNat_natCast]
    refine ⟨by omega, fun i h1 h2 => ?_, fun y hy => ?_, fun y hy hne => ?_, fun i h1 h2 _ y hy => ?_, fun h => absurd rfl h, fun z hz => by omega, fun z hz => by omega⟩
    · unfold updA
      split
      · rename_i e; subst e; exact okX_j hj b4
      · exact hM.ok i h1 h2
    · have := hM.rs y hy
      rw [cnt_upd (by omega) (by omega), hbr]
      rw [if_neg (show ¬ (-1 : Int) = (y : Int) by omega)]
      omega
    · have := hM.sl y hy hne
      rw [cnt_upd (by omega) (by omega), hbr]
      rw [if_neg (show ¬ (-1 : Int) = (y : Int) by omega)]
      omega
    · unfold updA
      split
      · rename_i e; subst e
        rw [cst_j, tak_j, hup]
        have := up_new (v := v) hD hy
        omega
      · rename_i e
        exact hM.ti i h1 h2 (.inl e) y hy
  · rw [b1, b2, Int.toNat_natCast]
    -- the request has not been moved yet
    have hBi : B i = (j' : Int) := by
      rw [← b7]
      refine Classical.byContradiction fun hc => ?_
      have := hM.hh j rfl i b5 b6 hc j' b7
      omega
    have hir : i ≠ lo + k := by omega
    have old := hv.ti i b5 b6 (j : Int) (okX_j hj b8)
    rw [b7, cst_j, tak_j, cst_j, tak_j] at old
    have hvj' : v j' ≤ L - d j' := by omega
    have hup' := up_at b4 hvj'
    refine ⟨by omega, fun z h1 h2 => ?_, fun y hy => ?_, fun y hy hne => ?_, fun z h1 h2 hz y hy => ?_, fun _ => ?_, fun z hz => ?_, fun z hz w w1 w2 hw u hu => ?_⟩
    · unfold updA
      split
      · rename_i e; subst e; exact okX_j hj b8
      · exact hM.ok z h1 h2
    · have := hM.rs y hy
      rw [cnt_upd (by omega) (by omega), hBi]
      omega
    · have := hM.sl y hy hne
      rw [cnt_upd (by omega) (by omega), hBi]
      omega
    · unfold updA
      split
      · rename_i e; subst e
        have t := up_tight hA hv hD b5 b6 hy
        rw [b7, cst_j, tak_j, hup'] at t
        rw [cst_j, tak_j, hup]
        omega
      · exact hM.ti z h1 h2 (.inl (by omega)) y hy
    · unfold updA
      rw [if_neg (by omega)]; exact hbr
    · obtain rfl : j' = z := by omega
      exact ⟨b3, b4, hvj'⟩
    · obtain rfl : j' = z := by omega
      by_cases hwi : w = i
      · subst hwi
        obtain rfl : j' = u := by omega
        omega
      · have hw' : B w ≠ A w := by
          unfold updA at hw
          rwa [if_neg hwi] at hw
        have := hM.hh j rfl w w1 w2 hw' u hu
        omega
/-- The start of the way back. -/
theorem Mid.start {h : Nat → Nat} {B : Nat → Int} {e out : Int} (hA : Perm m C A lo k room) (hv : Cert m C pen v A lo k room) (hD : Dist m C pen A lo k room F d L)
    (hB : ∀ i, lo ≤ i → i < lo + k → B i = if out = (i : Int) then -1 else A i) (hBr : B (lo + k) = -1)
    (he : (e = -1 ∧ out = ((lo + k : Nat) : Int) ∧ L = pen) ∨ (∃ j : Nat, e = j ∧ j < m ∧ F j ∧ out = -1 ∧ cnt A lo k j < room j ∧ L = d j) ∨ (∃ j i : Nat, e = j ∧ j < m ∧ F j ∧ out = i ∧ lo ≤ i ∧ i < lo + k ∧ A i = j ∧ L = d j - C i j + pen)) : Mid m C pen A lo k room F v d L h B e := by
  have hcnt : ∀ y : Nat, cnt B lo (k + 1) y = cnt B lo k y := fun y => by
    unfold cnt
    rw [sumR_snoc, hBr, if_neg (by omega)]; omega
  have same : (∀ i, lo ≤ i → i < lo + k → B i = A i) → ∀ y : Nat, cnt B lo k y = cnt A lo k y := fun hs y => sumR_congr k lo (fun i a b => by rw [hs i a b])
  have okr : okX m C (lo + k) (B (lo + k)) := .inl hBr
  rcases he with ⟨rfl, rfl, hL⟩ | ⟨j, rfl, hj, hf, rfl, hc, hL⟩ | ⟨j, i, rfl, hj, hf, rfl, i1, i2, ha, hL⟩
  · have hs : ∀ i, lo ≤ i → i < lo + k → B i = A i := fun i a b => by rw [hB i a b, if_neg (by omega)]
    refine ⟨fun i a b => ?_, fun y hy => ?_, fun y hy hne => ?_, fun i a b _ y hy => ?_, fun h => absurd rfl h, fun z hz => by omega, fun z hz => by omega⟩
    · by_cases hi : i = lo + k
      · subst hi; exact okr
      · rw [hs i a (by omega)]; exact hA.ok i a (by omega)
    · have := hA.rm y hy
      rw [hcnt, same hs, if_neg (by omega)]; omega
    · have := up_slack hv hA hD hy hne
      rw [hcnt, same hs, if_neg (by omega)]; omega
    · by_cases hi : i = lo + k
      · subst hi
        have := up_new (v := v) hD hy
        rw [hBr, cst_n, tak_n]; omega
      · rw [hs i a (by omega)]; exact up_tight hA hv hD a (by omega) hy
  · have hs : ∀ i, lo ≤ i → i < lo + k → B i = A i := fun i a b => by rw [hB i a b, if_neg (by omega)]
    have hv0 := hv.sl j hj hc
    refine ⟨fun i a b => ?_, fun y hy => ?_, fun y hy hne => ?_, fun i a b hir y hy => ?_, fun _ => hBr, fun z hz => ?_, fun z hz i a b hne => absurd (hs i a b) hne⟩
    · by_cases hi : i = lo + k
      · subst hi; exact okr
      · rw [hs i a (by omega)]; exact hA.ok i a (by omega)
    · have := hA.rm y hy
      rw [hcnt, same hs]
      by_cases hjy : j = y
      · subst hjy; rw [if_pos rfl]; omega
      · rw [if_neg (by omega)]; omega
    · have := up_slack hv hA hD hy hne
      by_cases hjy : j = y
      · subst hjy; omega
      · rw [hcnt, same hs, if_neg (by omega)]; omega
    · rcases hir with hir | hir
      · rw [hs i a (by omega)]; exact up_tight hA hv hD a (by omega) hy
      · omega
    · obtain rfl : j = z := by omega
      exact ⟨hj, hf, by omega⟩
  · have hBi : B i = -1 := by rw [hB i i1 i2, if_pos rfl]
    have hs : ∀ z, lo ≤ z → z < lo + k → z ≠ i → B z = A z := fun z a b hz => by rw [hB z a b, if_neg (by omega)]
    have hcc : ∀ y : Nat, cnt B lo k y = cnt A lo k y - (if (j : Int) = (y : Int) then 1 else 0) := fun y => by
      unfold cnt
      rw [sumR_upd i1 i2 (f := fun z => if A z = (y : Int) then 1 else 0) (fun z a b hz => by rw [hs z a b hz]), hBi, ha, if_neg (show ¬ (-1 : Int) = (y : Int) by omega)]
      omega
    have oldt := hv.ti i i1 i2 (-1) (.inl rfl)
    rw [ha, cst_j, tak_j, cst_n, tak_n] at oldt
    have hvj : v j ≤ L - d j := by omega
    have hup := up_at hf hvj
    refine ⟨fun z a b => ?_, fun y hy => ?_, fun y hy hne => ?_, fun z a b hir y hy => ?_, fun _ => hBr, fun z hz => ?_, fun z hz w a b hne u hu => ?_⟩
    · by_cases hi : z = lo + k
      · subst hi; exact okr
      · by_cases hzi : z = i
        · subst hzi; exact .inl hBi
        · rw [hs z a (by omega) hzi]; exact hA.ok z a (by omega)
    · have := hA.rm y hy
      rw [hcnt, hcc]; omega
    · have := up_slack hv hA hD hy hne
      rw [hcnt, hcc]; omega
    · rcases hir with hir | hir
      · by_cases hzi : z = i
        · subst hzi
          have t := up_tight hA hv hD i1 i2 hy
          rw [ha, cst_j, tak_j, hup] at t
          rw [hBi, cst_n, tak_n]; omega
        · rw [hs z a (by omega) hzi]; exact up_tight hA hv hD a (by omega) hy
      · omega
    · obtain rfl : j = z := by omega
      exact ⟨hj, hf, hvj⟩
    · obtain rfl : j = z := by omega
      by_cases hwi : w = i
      · subst hwi
        obtain rfl : j = u := by omega
        omega
      · exact absurd (hs w a b hwi) hne
/-- Behind the way back. -/
theorem Mid.done {h : Nat → Nat} {B : Nat → Int} (hv : Cert m C pen v A lo k room) (hM : Mid m C pen A lo k room F v d L h B (-1)) : Perm m C B lo (k + 1) room ∧ Cert m C pen (up v d F L) B lo (k + 1) room := by
  refine ⟨⟨hM.ok, fun j hj => ?_⟩, fun j hj => ?_, fun j hj hc => ?_, fun i a b y hy => hM.ti i a b (.inr rfl) y hy⟩
  · have := hM.rs j hj
    rw [if_neg (by omega)] at this; omega
  · have := hv.nn j hj
    have := (up_ge (v := v) (d := d) (F := F) (L := L) j).1
    omega
  · refine Classical.byContradiction fun hne => ?_
    have := hM.sl j hj hne
    rw [if_neg (by omega)] at this; omega
end
end
section
/- The search for a shortest way: what its loops compute. Conditions: none. -/
open Go

abbrev FAR : Int := 1099511627776
abbrev Cf (p : SProblem) (i j : Nat) : Int := (p.fCosts.getD i []).getD j 0
abbrev Af (a : List Int) (i : Nat) : Int := a.getD i (-1)
abbrev gI (l : List Int) (i : Nat) : Int := l.getD i 0
theorem ixA {l : List Int} {i : Nat} (h : i < l.length) : ix l (i : Int) = some (Af l i) := ix_get (-1) h
theorem ixG {l : List Int} {i : Nat} (h : i < l.length) : ix l (i : Int) = some (gI l i) := ix_get 0 h
theorem ixC {p : SProblem} {i : Nat} (h : i < p.fCosts.length) : ix p.fCosts (i : Int) = some (p.fCosts.getD i []) := ix_get [] h
theorem setG {l : List Int} {i : Nat} {x : Int} (h : i < l.length) : setI l (i : Int) x = some (l.set i x) := by rw [setI_some (by omega) (by omega)]; rfl
theorem gI_set {l : List Int} {i j : Nat} {x : Int} (h : i < l.length) : gI (l.set i x) j = if i = j then x else gI l j := getD_set l i j x 0 h
theorem Af_set {l : List Int} {i j : Nat} {x : Int} (h : i < l.length) : Af (l.set i x) j = if i = j then x else Af l j := getD_set l i j x (-1) h
theorem gI_rep {m j : Nat} {x : Int} (h : j < m) : gI (List.replicate m x) j = x := by simp [h]
theorem asg {q : SProblem} {room a : List Int} {lo : Nat} (ha : a.length ≤ 12) (hlo : lo ≤ a.length) (j : Nat) :
    ∃ l, m_route_search_assigned FU ⟨q, room, a, (lo : Int)⟩ (j : Int) = some l ∧ (∀ x ∈ l, ∃ i : Nat, x = i ∧ lo ≤ i ∧ i < a.length ∧ Af a i = j) ∧ (∀ i : Nat, lo ≤ i → i < a.length → Af a i = j → (i : Int) ∈ l) ∧ (l.length : Int) = cnt (Af a) lo (a.length - lo) j := by
  unfold m_route_search_assigned
  obtain ⟨t, h1, h2⟩ := iter_inv (σ := List Int × Int) (f := fun s => m_route_search_assigned_L1 FU ⟨q, room, a, (lo : Int)⟩ (j : Int) s.1 s.2)
    (I := fun k s => ∃ i : Nat, s.2 = i ∧ i + k = a.length ∧ lo ≤ i ∧ s.1.length ≤ i ∧ (∀ x ∈ s.1, ∃ i' : Nat, x = i' ∧ lo ≤ i' ∧ i' < a.length ∧ Af a i' = j) ∧ (∀ i' : Nat, lo ≤ i' → i' < i → Af a i' = j → (i' : Int) ∈ s.1) ∧ (s.1.length : Int) = cnt (Af a) lo (i - lo) j)
    (Q := fun l => (∀ x ∈ l, ∃ i : Nat, x = i ∧ lo ≤ i ∧ i < a.length ∧ Af a i = j) ∧ (∀ i : Nat, lo ≤ i → i < a.length → Af a i = j → (i : Int) ∈ l) ∧ (l.length : Int) = cnt (Af a) lo (a.length - lo) j) (by
      rintro k ⟨l, z⟩ ⟨i, h1, h2, h3, h4, h5, h6, h7⟩
      dsimp only at h1 h4 h5 h6 h7
      subst h1
      simp only [m_route_search_assigned_L1]
      by_cases hk : k = 0
      · right
        have e : i = a.length := by omega
        subst e
        exact ⟨l, by simp, h5, h6, h7⟩
      · left
        have hi : i < a.length := by omega
        simp only [show (i : Int) < a.length by omega, decide_true, if_true]
        rw [ixA hi]
        simp only [Option.bind_some]
        have hc : cnt (Af a) lo (i + 1 - lo) j = cnt (Af a) lo (i - lo) j + (if Af a i = (j : Int) then 1 else 0) := by
          unfold cnt
          rw [show i + 1 - lo = i - lo + 1 by omega, sumR_snoc, show lo + (i - lo) = i by omega]
        by_cases hj : Af a i = (j : Int)
        · simp only [hj, decide_true, if_true]
          rw [app_some (by decide) (by simp; omega)]
          simp only [Option.bind_some]
          rw [wadd1 (show i < 12 by omega) (by decide)]
          refine ⟨_, k - 1, rfl, by omega, i + 1, rfl, by omega, by omega, by simp; omega, fun x hx => ?_, fun z hz hz2 hz3 => ?_, ?_⟩
          · rcases List.mem_append.1 hx with hx | hx
            · exact h5 x hx
            · exact ⟨i, by simpa using hx, h3, hi, hj⟩
          · by_cases hzi : z = i
            · subst hzi; exact List.mem_append.2 (.inr (by simp))
            · exact List.mem_append.2 (.inl (h6 z hz (by omega) hz3))
          · dsimp only
            rw [hc, if_pos hj, List.length_append, List.length_singleton]; omega
        · simp only [hj, decide_false, Bool.false_eq_true, if_false, Option.bind_some]
          rw [wadd1 (show i < 12 by omega) (by decide)]
          refine ⟨_, k - 1, rfl, by omega, i + 1, rfl, by omega, by omega, by dsimp only; omega, h5, fun z hz hz2 hz3 => ?_, ?_⟩
          · by_cases hzi : z = i
            · subst hzi; exact absurd hz3 hj
            · exact h6 z hz (by omega) hz3
          · dsimp only
            rw [hc, if_neg hj]; omega) (a.length - lo) FU ([], (lo : Int)) ⟨lo, rfl, by omega, by omega, by simp, by simp, fun i h1 h2 => by omega, by simp [cnt, sumR]⟩ (by simp only [FU]; omega)
  exact ⟨t, by simp only [h1, Option.bind_some], h2⟩
theorem rep_far : ∀ m : Nat, m < 13 → m_slices_Repeat_int_int FU [1099511627776] (m : Int) = some (List.replicate m 1099511627776) := by decide +kernel
theorem rep_neg : ∀ m : Nat, m < 13 → m_slices_Repeat_int_int FU [-1] (m : Int) = some (List.replicate m (-1)) := by decide +kernel

section
variable {p : SProblem} {room a : List Int} {lo : Nat}
theorem add_init (hv : VP p) {r : Nat} (hr : r < p.fCosts.length) {dist by' : List Int} (hd : dist.length = p.fRoom.length) (hb : by'.length = p.fRoom.length) :
    ∃ t : List Int × List Int, iter FU (fun s => m_route_search_add_L1 FU (r : Int) (p.fCosts.getD r []) s.1 s.2.1 s.2.2) ((0 : Int), dist, by') = some t ∧ t.1.length = p.fRoom.length ∧ t.2.length = p.fRoom.length ∧
      ∀ j, j < p.fRoom.length → (Cf p r j ≠ -1 → gI t.1 j = Cf p r j ∧ gI t.2 j = r) ∧ (Cf p r j = -1 → gI t.1 j = gI dist j) := by
  have hrow := hv.row r hr
  have hm := hv.r
  refine iter_inv (σ := Int × List Int × List Int) (I := fun k s => ∃ i : Nat, s.1 = i ∧ i + k = p.fRoom.length ∧ s.2.1.length = p.fRoom.length ∧ s.2.2.length = p.fRoom.length ∧
      (∀ j, j < i → (Cf p r j ≠ -1 → gI s.2.1 j = Cf p r j ∧ gI s.2.2 j = r) ∧ (Cf p r j = -1 → gI s.2.1 j = gI dist j)) ∧ ∀ j, i ≤ j → gI s.2.1 j = gI dist j)
    (Q := fun t : List Int × List Int => t.1.length = p.fRoom.length ∧ t.2.length = p.fRoom.length ∧ ∀ j, j < p.fRoom.length → (Cf p r j ≠ -1 → gI t.1 j = Cf p r j ∧ gI t.2 j = r) ∧ (Cf p r j = -1 → gI t.1 j = gI dist j)) (by
      rintro k ⟨z, d, b⟩ ⟨i, h1, h2, h3, h4, h5, h6⟩
      dsimp only at h1 h3 h4 h5 h6
      subst h1
      simp only [m_route_search_add_L1]
      by_cases hk : k = 0
      · right
        have e : i = p.fRoom.length := by omega
        refine ⟨(d, b), by rw [decide_eq_false (by omega)]; rfl, h3, h4, fun j hj => h5 j (by omega)⟩
      · left
        have hi : i < (p.fCosts.getD r []).length := by omega
        rw [decide_eq_true (show (i : Int) < ((p.fCosts.getD r []).length : Int) by omega), if_pos rfl, ixG hi]
        simp only [Option.bind_some]
        by_cases hc : gI (p.fCosts.getD r []) i = -1
        · simp only [hc, decide_true, Bool.not_true, Bool.false_eq_true, if_false, Option.bind_some]
          rw [wadd1 (show i < 12 by omega) (by decide)]
          refine ⟨_, k - 1, rfl, by omega, i + 1, rfl, by omega, h3, h4, fun j hj => ?_, fun j hj => h6 j (by omega)⟩
          by_cases hji : j = i
          · subst hji
            exact ⟨fun h => absurd hc h, fun _ => h6 j (Nat.le_refl _)⟩
          · exact h5 j (by omega)
        · simp only [hc, decide_false, Bool.not_false, if_true]
          rw [ixG (by omega), setG (by omega)]
          simp only [Option.bind_some]
          rw [ixG (by omega), setG (by omega)]
          simp only [Option.bind_some]
          rw [wadd1 (show i < 12 by omega) (by decide)]
          refine ⟨_, k - 1, rfl, by omega, i + 1, rfl, by omega, by simp [h3], by simp [h4], fun j hj => ?_, fun j hj => ?_⟩
          · dsimp only
            rw [gI_set (by omega), gI_set (by omega)]
            by_cases hji : i = j
            · subst hji
              rw [if_pos rfl, if_pos rfl]
              exact ⟨fun _ => ⟨rfl, rfl⟩, fun h => absurd h hc⟩
            · rw [if_neg hji, if_neg hji]; exact h5 j (by omega)
          · dsimp only
            rw [gI_set (by omega), if_neg (by omega)]; exact h6 j (by omega)) p.fRoom.length FU ((0 : Int), dist, by') ⟨0, rfl, by omega, hd, hb, fun j hj => by omega, fun j _ => rfl⟩ (by simp only [FU]; omega)

/-- A step by which some distance becomes less. -/
def Imp (p : SProblem) (a : List Int) (lo : Nat) (dist by' bk : List Int) (u : List Int × List Int × List Int) : Prop :=
  ∃ j i y : Nat, j < p.fRoom.length ∧ gI dist j < FAR ∧ lo ≤ i ∧ i < a.length ∧ Af a i = j ∧ y < p.fRoom.length ∧ Cf p i y ≠ -1 ∧ gI dist j - Cf p i j + Cf p i y < gI dist y ∧
    u = (dist.set y (gI dist j - Cf p i j + Cf p i y), by'.set y (i : Int), bk.set y (j : Int))
variable (dist by' bk : List Int)
structure Lens (p : SProblem) (dist by' bk : List Int) : Prop where
  d : dist.length = p.fRoom.length
  b : by'.length = p.fRoom.length
  k : bk.length = p.fRoom.length
  r : ∀ j, j < p.fRoom.length → -1000000 ≤ gI dist j ∧ gI dist j ≤ FAR
variable {dist by' bk : List Int}
theorem add_L5 (hv : VP p) (hl : Lens p dist by' bk) (ha : a.length = p.fCosts.length) {j i : Nat} (hj : j < p.fRoom.length) (hf : gI dist j < FAR) (h1 : lo ≤ i) (h2 : i < a.length) (h3 : Af a i = j) :
    ∃ t, iter FU (fun s => m_route_search_add_L5 FU ⟨p, room, a, (lo : Int)⟩ dist by' bk (j : Int) (i : Int) (p.fCosts.getD i []) s) (0 : Int) = some t ∧
      Sum.elim (Imp p a lo dist by' bk) (fun _ => ∀ y, y < p.fRoom.length → Cf p i y ≠ -1 → gI dist y ≤ gI dist j - Cf p i j + Cf p i y) t := by
  have hrow := hv.row i (by omega)
  have hm := hv.r
  have hcj : -1 ≤ gI (p.fCosts.getD i []) j ∧ gI (p.fCosts.getD i []) j ≤ 10000 := hv.co i j (by omega) hj
  have hdj := hl.r j hj
  refine iter_inv (σ := Int) (I := fun k s => ∃ y : Nat, s = y ∧ y + k = p.fRoom.length ∧ ∀ z, z < y → Cf p i z ≠ -1 → gI dist z ≤ gI dist j - Cf p i j + Cf p i z)
    (Q := fun t => Sum.elim (Imp p a lo dist by' bk) (fun _ => ∀ y, y < p.fRoom.length → Cf p i y ≠ -1 → gI dist y ≤ gI dist j - Cf p i j + Cf p i y) t) (by
      rintro k s ⟨y, rfl, g1, g2⟩
      simp only [m_route_search_add_L5]
      by_cases hk : k = 0
      · right
        refine ⟨.inr (), by rw [decide_eq_false (by omega)]; rfl, fun z hz => g2 z (by omega)⟩
      · have hy : y < (p.fCosts.getD i []).length := by omega
        have hcy : -1 ≤ gI (p.fCosts.getD i []) y ∧ gI (p.fCosts.getD i []) y ≤ 10000 := hv.co i y (by omega) (by omega)
        have hdy := hl.r y (by omega)
        rw [decide_eq_true (show (y : Int) < ((p.fCosts.getD i []).length : Int) by omega), if_pos rfl, ixG hy]
        simp only [Option.bind_some]
        by_cases hc : gI (p.fCosts.getD i []) y = -1
        · left
          simp only [hc, decide_true, Bool.not_true, Bool.false_eq_true, if_false, Option.bind_some, Bool.false_and]
          rw [wadd1 (show y < 12 by omega) (by decide)]
          refine ⟨_, k - 1, rfl, by omega, y + 1, rfl, by omega, fun z hz hcz => ?_⟩
          by_cases hzy : z = y
          · subst hzy; exact absurd hc hcz
          · exact g2 z (by omega) hcz
        · simp only [hc, decide_false, Bool.not_false, if_true, Bool.true_and]
          rw [ixG (show j < dist.length by rw [hl.d]; exact hj), ixC (show i < p.fCosts.length by omega)]
          simp only [Option.bind_some]
          rw [ixG (show j < (p.fCosts.getD i []).length by omega), ixG (show y < dist.length by rw [hl.d]; omega)]
          simp only [Option.bind_some]
          rw [w64 (x := gI dist j - gI (p.fCosts.getD i []) j) (by dsimp only [FAR] at *; omega) (by dsimp only [FAR] at *; omega), w64 (by dsimp only [FAR] at *; omega) (by dsimp only [FAR] at *; omega)]
          by_cases hlt : gI dist j - gI (p.fCosts.getD i []) j + gI (p.fCosts.getD i []) y < gI dist y
          · right
            simp only [hlt, decide_true, if_true]
            rw [setG (by rw [hl.d]; omega), ixG (by rw [hl.b]; omega)]
            simp only [Option.bind_some]
            rw [setG (by rw [hl.b]; omega), ixG (by rw [hl.k]; omega)]
            simp only [Option.bind_some]
            rw [setG (by rw [hl.k]; omega)]
            exact ⟨_, rfl, j, i, y, hj, hf, h1, h2, h3, by omega, hc, hlt, rfl⟩
          · left
            simp only [hlt, decide_false, Bool.false_eq_true, if_false]
            rw [wadd1 (show y < 12 by omega) (by decide)]
            refine ⟨_, k - 1, rfl, by omega, y + 1, rfl, by omega, fun z hz hcz => ?_⟩
            by_cases hzy : z = y
            · subst hzy; exact Int.not_lt.1 hlt
            · exact g2 z (by omega) hcz) p.fRoom.length FU 0 ⟨0, rfl, by omega, fun z hz => by omega⟩ (by simp only [FU]; omega)
theorem add_L4 (hv : VP p) (hl : Lens p dist by' bk) (ha : a.length = p.fCosts.length) {j : Nat} (hj : j < p.fRoom.length) (hf : gI dist j < FAR) {l : List Int} (hll : l.length ≤ 12) (hmem : ∀ x ∈ l, ∃ i : Nat, x = i ∧ lo ≤ i ∧ i < a.length ∧ Af a i = j) :
    ∃ t, iter FU (fun s => m_route_search_add_L4 FU ⟨p, room, a, (lo : Int)⟩ dist by' bk (j : Int) l s) (0 : Int) = some t ∧
      Sum.elim (Imp p a lo dist by' bk) (fun _ => ∀ i : Nat, (i : Int) ∈ l → ∀ y, y < p.fRoom.length → Cf p i y ≠ -1 → gI dist y ≤ gI dist j - Cf p i j + Cf p i y) t := by
  refine iter_inv (σ := Int) (I := fun k s => ∃ q : Nat, s = q ∧ q + k = l.length ∧ ∀ z : Nat, z < q → ∀ i : Nat, gI l z = i → ∀ y, y < p.fRoom.length → Cf p i y ≠ -1 → gI dist y ≤ gI dist j - Cf p i j + Cf p i y)
    (Q := fun t => Sum.elim (Imp p a lo dist by' bk) (fun _ => ∀ i : Nat, (i : Int) ∈ l → ∀ y, y < p.fRoom.length → Cf p i y ≠ -1 → gI dist y ≤ gI dist j - Cf p i j + Cf p i y) t) (by
      rintro k s ⟨q, rfl, g1, g2⟩
      simp only [m_route_search_add_L4]
      by_cases hk : k = 0
      · right
        refine ⟨.inr (), by rw [decide_eq_false (by omega)]; rfl, fun i hi => ?_⟩
        obtain ⟨z, hz, hzi⟩ := List.getElem_of_mem hi
        exact g2 z (by omega) i (by simp [hz, hzi])
      · have hq : q < l.length := by omega
        obtain ⟨i, e, i1, i2, i3⟩ := hmem (gI l q) (by simp [hq])
        rw [decide_eq_true (show (q : Int) < (l.length : Int) by omega), if_pos rfl, ixG hq, Option.bind_some, e, ixC (show i < p.fCosts.length by omega), Option.bind_some]
        obtain ⟨t, t1, t2⟩ := add_L5 (room := room) hv hl ha hj hf i1 i2 i3
        rw [t1, Option.bind_some]
        cases t with
        | inl u => exact .inr ⟨.inl u, rfl, t2⟩
        | inr u =>
          left
          dsimp only
          rw [wadd1 (show q < 12 by omega) (by decide)]
          refine ⟨_, k - 1, rfl, by omega, q + 1, rfl, by omega, fun z hz w hw => ?_⟩
          by_cases hzq : z = q
          · subst hzq
            rw [e] at hw
            obtain rfl : i = w := by omega
            exact t2
          · exact g2 z (by omega) w hw) l.length FU 0 ⟨0, rfl, by omega, fun z hz => by omega⟩ (by simp only [FU]; omega)
theorem add_L3 (hv : VP p) (hl : Lens p dist by' bk) (ha : a.length = p.fCosts.length) (hlo : lo ≤ a.length) (hr : room.length = p.fRoom.length) :
    ∃ t, iter FU (fun s => m_route_search_add_L3 FU ⟨p, room, a, (lo : Int)⟩ dist by' bk s) (0 : Int) = some t ∧
      Sum.elim (Imp p a lo dist by' bk) (fun _ => ∀ j, j < p.fRoom.length → gI dist j < FAR → ∀ i : Nat, lo ≤ i → i < a.length → Af a i = j → ∀ y, y < p.fRoom.length → Cf p i y ≠ -1 → gI dist y ≤ gI dist j - Cf p i j + Cf p i y) t := by
  have hm := hv.r
  have hc := hv.c
  refine iter_inv (σ := Int) (I := fun k s => ∃ q : Nat, s = q ∧ q + k = p.fRoom.length ∧ ∀ j, j < q → gI dist j < FAR → ∀ i : Nat, lo ≤ i → i < a.length → Af a i = j → ∀ y, y < p.fRoom.length → Cf p i y ≠ -1 → gI dist y ≤ gI dist j - Cf p i j + Cf p i y)
    (Q := fun t => Sum.elim (Imp p a lo dist by' bk) (fun _ => ∀ j, j < p.fRoom.length → gI dist j < FAR → ∀ i : Nat, lo ≤ i → i < a.length → Af a i = j → ∀ y, y < p.fRoom.length → Cf p i y ≠ -1 → gI dist y ≤ gI dist j - Cf p i j + Cf p i y) t) (by
      rintro k s ⟨q, rfl, g1, g2⟩
      simp only [m_route_search_add_L3]
      by_cases hk : k = 0
      · right
        exact ⟨.inr (), by rw [decide_eq_false (by omega)]; rfl, fun j hj => g2 j (by omega)⟩
      · have hq : q < p.fRoom.length := by omega
        rw [decide_eq_true (show (q : Int) < (room.length : Int) by omega), if_pos rfl, ixG (by rw [hl.d]; exact hq)]
        simp only [Option.bind_some]
        by_cases hf : FAR ≤ gI dist q
        · left
          simp only [hf, decide_true, if_true, Option.bind_some]
          rw [wadd1 (show q < 12 by omega) (by decide)]
          refine ⟨_, k - 1, rfl, by omega, q + 1, rfl, by omega, fun j hj hjf => ?_⟩
          by_cases hjq : j = q
          · subst hjq; omega
          · exact g2 j (by omega) hjf
        · simp only [hf, decide_false, Bool.false_eq_true, if_false]
          obtain ⟨l, l1, l2, l3, l4⟩ := asg (q := p) (room := room) (show a.length ≤ 12 by omega) hlo q
          have hll : l.length ≤ 12 := by
            have : cnt (Af a) lo (a.length - lo) q ≤ 12 := by
              have := sumR_le (a.length - lo) lo (f := fun i => if Af a i = (q : Int) then 1 else 0) (g := fun _ => 1) (fun i _ _ => by split <;> omega)
              have e : ∀ (k lo : Nat), sumR (fun _ => 1) lo k = k := by
                intro k
                induction k with
                | zero => intro lo; rfl
                | succ k ih => intro lo; rw [sumR, ih]; omega
              rw [e] at this
              unfold cnt; omega
            omega
          rw [show (⟨(⟨p.fCosts, p.fRoom, p.fPenalty⟩ : SProblem), room, a, (lo : Int)⟩ : Ssearch) = ⟨p, room, a, (lo : Int)⟩ from rfl, l1, Option.bind_some]
          obtain ⟨t, t1, t2⟩ := add_L4 (room := room) hv hl ha hq (by omega) hll l2
          rw [t1, Option.bind_some]
          cases t with
          | inl u => exact .inr ⟨.inl u, rfl, t2⟩
          | inr u =>
            left
            simp only [Option.bind_some]
            rw [wadd1 (show q < 12 by omega) (by decide)]
            refine ⟨_, k - 1, rfl, by omega, q + 1, rfl, by omega, fun j hj hjf i i1 i2 i3 => ?_⟩
            by_cases hjq : j = q
            · subst hjq
              exact t2 i (l3 i i1 i2 i3)
            · exact g2 j (by omega) hjf i i1 i2 i3) p.fRoom.length FU 0 ⟨0, rfl, by omega, fun z hz => by omega⟩ (by simp only [FU]; omega)
end
end
end Go.Proofs.Ythjinjinnklkgaa.Ab
