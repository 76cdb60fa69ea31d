/- Assignments of requests to lenders at the least cost: plain laws on sums and certificates. Conditions: none. -/
import Derived.Test.YthjinjinnklkgaaNt
namespace Go.Proofs.Ythjinjinnklkgaa.Ab
open Go

/-- The sum over k numbers from lo. -/
def sumR (f : Nat → Int) : Nat → Nat → Int
  | _, 0 => 0
  | lo, k + 1 => f lo + sumR f (lo + 1) k
theorem sumR_congr {f g : Nat → Int} : ∀ (k lo : Nat), (∀ i, lo ≤ i → i < lo + k → f i = g i) → sumR f lo k = sumR g lo k
  | 0, _, _ => rfl
  | k + 1, lo, h => by rw [sumR, sumR, h lo (by omega) (by omega), sumR_congr k (lo + 1) (fun i h1 h2 => h i (by omega) (by omega))]
theorem sumR_le {f g : Nat → Int} : ∀ (k lo : Nat), (∀ i, lo ≤ i → i < lo + k → f i ≤ g i) → sumR f lo k ≤ sumR g lo k
  | 0, _, _ => Int.le_refl _
  | k + 1, lo, h => by
    rw [sumR, sumR]
    have h1 := h lo (by omega) (by omega)
    have h2 := sumR_le k (lo + 1) (fun i h1 h2 => h i (by omega) (by omega))
    omega
theorem sumR_add (f g : Nat → Int) : ∀ (k lo : Nat), sumR (fun i => f i + g i) lo k = sumR f lo k + sumR g lo k
  | 0, _ => rfl
  | k + 1, lo => by rw [sumR, sumR, sumR, sumR_add f g k]; omega
theorem sumR_sub (f g : Nat → Int) : ∀ (k lo : Nat), sumR (fun i => f i - g i) lo k = sumR f lo k - sumR g lo k
  | 0, _ => rfl
  | k + 1, lo => by rw [sumR, sumR, sumR, sumR_sub f g k]; omega
theorem sumR_zero : ∀ (k lo : Nat), sumR (fun _ => 0) lo k = 0
  | 0, _ => rfl
  | k + 1, lo => by rw [sumR, sumR_zero k]; rfl
theorem sumR_snoc (f : Nat → Int) : ∀ (k lo : Nat), sumR f lo (k + 1) = sumR f lo k + f (lo + k)
  | 0, lo => by simp [sumR]
  | k + 1, lo => by
    rw [sumR, sumR_snoc f k (lo + 1), sumR, show lo + 1 + k = lo + (k + 1) by omega]; omega
theorem sumR_nn {f : Nat → Int} : ∀ (k lo : Nat), (∀ i, lo ≤ i → i < lo + k → 0 ≤ f i) → 0 ≤ sumR f lo k := fun k lo h => by
  have := sumR_le k lo h (f := fun _ => 0)
  rwa [sumR_zero] at this
/-- Where a sum of numbers that are not negative is 0, all are. -/
theorem sumR_all0 {f : Nat → Int} : ∀ (k lo : Nat), (∀ i, lo ≤ i → i < lo + k → 0 ≤ f i) → sumR f lo k ≤ 0 → ∀ i, lo ≤ i → i < lo + k → f i = 0
  | 0, lo, _, _, i, h1, h2 => by omega
  | k + 1, lo, h, hs, i, h1, h2 => by
    rw [sumR] at hs
    have a := h lo (by omega) (by omega)
    have b := sumR_nn k (lo + 1) (fun i h1 h2 => h i (by omega) (by omega))
    by_cases hi : i = lo
    · subst hi; omega
    · exact sumR_all0 k (lo + 1) (fun i h1 h2 => h i (by omega) (by omega)) (by omega) i (by omega) (by omega)
theorem sumR_one (x : Int) (j : Nat) : ∀ (k lo : Nat), sumR (fun i => if i = j then x else 0) lo k = if lo ≤ j ∧ j < lo + k then x else 0
  | 0, lo => by rw [if_neg (by omega)]; rfl
  | k + 1, lo => by
    rw [sumR, sumR_one x j k]
    by_cases h : lo = j
    · subst h
      rw [if_pos rfl, if_neg (by omega), if_pos (by omega)]; omega
    · rw [if_neg h]
      by_cases h2 : lo + 1 ≤ j ∧ j < lo + 1 + k
      · rw [if_pos h2, if_pos (by omega)]; omega
      · rw [if_neg h2, if_neg (by omega)]; omega
theorem sumR_swap (f : Nat → Nat → Int) : ∀ (k lo : Nat) (m : Nat), sumR (fun i => sumR (fun j => f i j) 0 m) lo k = sumR (fun j => sumR (fun i => f i j) lo k) 0 m
  | 0, lo, m => by
    simp only [sumR]; exact (sumR_zero m 0).symm
  | k + 1, lo, m => by
    simp only [sumR]
    rw [sumR_swap f k (lo + 1) m, ← sumR_add]
/-- One number is another one. -/
theorem sumR_upd {f g : Nat → Int} {r : Nat} {k lo : Nat} (h1 : lo ≤ r) (h2 : r < lo + k) (h : ∀ i, lo ≤ i → i < lo + k → i ≠ r → g i = f i) : sumR g lo k = sumR f lo k + (g r - f r) := by
  have := sumR_sub g f k lo
  have e : sumR (fun i => g i - f i) lo k = sumR (fun i => if i = r then g r - f r else 0) lo k := sumR_congr k lo (fun i a b => by
    by_cases hi : i = r
    · subst hi; simp
    · rw [if_neg hi, h i a b hi]; omega)
  rw [sumR_one, if_pos ⟨h1, h2⟩] at e
  omega

section
variable (m : Nat) (C : Nat → Nat → Int) (pen : Int)
/-- What a choice costs: nobody, or a lender. -/
def cst (i : Nat) (x : Int) : Int := if x = -1 then pen else C i x.toNat
/-- What a lender takes. -/
def tak (v : Nat → Int) (x : Int) : Int := if x = -1 then 0 else v x.toNat
def okX (i : Nat) (x : Int) : Prop := x = -1 ∨ (0 ≤ x ∧ x < m ∧ C i x.toNat ≠ -1)
/-- How many requests a lender has. -/
def cnt (A : Nat → Int) (lo k j : Nat) : Int := sumR (fun i => if A i = (j : Int) then 1 else 0) lo k
structure Perm (A : Nat → Int) (lo k : Nat) (room : Nat → Int) : Prop where
  ok : ∀ i, lo ≤ i → i < lo + k → okX m C i (A i)
  rm : ∀ j, j < m → cnt A lo k j ≤ room j
def costA (A : Nat → Int) (lo k : Nat) : Int := sumR (fun i => cst C pen i (A i)) lo k
structure Cert (v A : Nat → Int) (lo k : Nat) (room : Nat → Int) : Prop where
  nn : ∀ j, j < m → 0 ≤ v j
  sl : ∀ j, j < m → cnt A lo k j < room j → v j = 0
  ti : ∀ i, lo ≤ i → i < lo + k → ∀ y, okX m C i y → cst C pen i (A i) + tak v (A i) ≤ cst C pen i y + tak v y
end
variable {m : Nat} {C : Nat → Nat → Int} {pen : Int}
theorem cnt_nn {A : Nat → Int} {lo k j : Nat} : 0 ≤ cnt A lo k j := sumR_nn k lo (fun i _ _ => by split <;> omega)
theorem tak_sum {v A : Nat → Int} {room : Nat → Int} {lo k : Nat} (h : Perm m C A lo k room) : sumR (fun i => tak v (A i)) lo k = sumR (fun j => cnt A lo k j * v j) 0 m := by
  have e1 : sumR (fun i => tak v (A i)) lo k = sumR (fun i => sumR (fun j => if A i = (j : Int) then v j else 0) 0 m) lo k := by
    refine sumR_congr k lo (fun i a b => ?_)
    rcases h.ok i a b with hx | ⟨h0, h1, _⟩
    · rw [tak, if_pos hx]
      refine ((sumR_congr m 0 (fun j _ _ => ?_)).trans (sumR_zero m 0)).symm
      rw [hx]; exact if_neg (by omega)
    · rw [tak, if_neg (by omega)]
      have := sumR_one (v (A i).toNat) (A i).toNat m 0
      rw [if_pos (by omega)] at this
      rw [← this]
      refine sumR_congr m 0 (fun j _ _ => ?_)
      by_cases hj : j = (A i).toNat
      · subst hj; rw [if_pos rfl, if_pos (by omega)]
      · rw [if_neg hj, if_neg (by omega)]
  rw [e1, sumR_swap]
  refine sumR_congr m 0 (fun j _ _ => ?_)
  rw [cnt]
  have : ∀ (k lo : Nat), sumR (fun i => if A i = (j : Int) then v j else 0) lo k = sumR (fun i => if A i = (j : Int) then 1 else 0) lo k * v j := by
    intro k
    induction k with
    | zero => intro lo; simp [sumR]
    | succ k ih =>
      intro lo
      rw [sumR, sumR, ih, Int.add_mul]
      split <;> simp
  exact this k lo
theorem room_sum {v A : Nat → Int} {room : Nat → Int} {lo k : Nat} (h : Perm m C A lo k room) (hv : Cert m C pen v A lo k room) : sumR (fun i => tak v (A i)) lo k = sumR (fun j => room j * v j) 0 m := by
  rw [tak_sum h]
  refine sumR_congr m 0 (fun j _ hj => ?_)
  have h1 := h.rm j (by omega)
  by_cases hc : cnt A lo k j < room j
  · rw [hv.sl j (by omega) hc]; simp
  · rw [show cnt A lo k j = room j by omega]
/-- No other assignment costs less than one with a certificate. -/
theorem Cert.least {v A B : Nat → Int} {room : Nat → Int} {lo k : Nat} (hA : Perm m C A lo k room) (hv : Cert m C pen v A lo k room) (hB : Perm m C B lo k room) : costA C pen A lo k ≤ costA C pen B lo k ∧
    (costA C pen B lo k ≤ costA C pen A lo k → Cert m C pen v B lo k room) := by
  have e1 := room_sum hA hv
  have e2 := tak_sum (v := v) hB
  have l1 : 0 ≤ sumR (fun j => room j * v j - cnt B lo k j * v j) 0 m := sumR_nn m 0 (fun j _ hj => by
    rw [← Int.sub_mul]
    have := hB.rm j (by omega)
    exact Int.mul_nonneg (by omega) (hv.nn j (by omega)))
  have l2 : 0 ≤ sumR (fun i => (cst C pen i (B i) + tak v (B i)) - (cst C pen i (A i) + tak v (A i))) lo k := sumR_nn k lo (fun i a b => by
    have := hv.ti i a b (B i) (hB.ok i a b); omega)
  have s1 := sumR_sub (fun j => room j * v j) (fun j => cnt B lo k j * v j) m 0
  have s2 := sumR_sub (fun i => cst C pen i (B i) + tak v (B i)) (fun i => cst C pen i (A i) + tak v (A i)) k lo
  have s3 := sumR_add (fun i => cst C pen i (B i)) (fun i => tak v (B i)) k lo
  have s4 := sumR_add (fun i => cst C pen i (A i)) (fun i => tak v (A i)) k lo
  refine ⟨by unfold costA; omega, fun hle => ?_⟩
  unfold costA at hle
  have z1 := sumR_all0 m 0 (f := fun j => room j * v j - cnt B lo k j * v j) (fun j _ hj => by
    show 0 ≤ room j * v j - cnt B lo k j * v j
    rw [← Int.sub_mul]
    have := hB.rm j (by omega)
    exact Int.mul_nonneg (by omega) (hv.nn j (by omega))) (by omega)
  have z2 := sumR_all0 k lo (f := fun i => (cst C pen i (B i) + tak v (B i)) - (cst C pen i (A i) + tak v (A i))) (fun i a b => by
    have := hv.ti i a b (B i) (hB.ok i a b); omega) (by omega)
  refine ⟨hv.nn, fun j hj hc => ?_, fun i a b y hy => ?_⟩
  · have := z1 j (by omega) (by omega)
    rw [← Int.sub_mul] at this
    rcases Int.mul_eq_zero.1 this with h | h
    · omega
    · exact h
  · have h1 := z2 i a b
    have h2 := hv.ti i a b y hy
    omega
end Go.Proofs.Ythjinjinnklkgaa.Ab
