/- Distances, in plain Lean. Conditions: none. -/
import Derived.Test.YtgcmhhcopeiomaaVb
namespace Go.Proofs.Ytgcmhhcopeiomaa.Ab
open Go

/-! ### the characters of a text -/
theorem width_pos31 (s : ByteArray) (pos : Nat) (h : pos < s.size) : 1 ≤ (Utf8.decode s pos).2 := by
  by_cases ha : (s[pos]'h).toNat < 128
  · rw [decode_ascii s pos h ha]
    exact Nat.le_refl _
  · exact (decode_high s pos h (by omega)).2
noncomputable def chs (s : List UInt8) : List Int := (m_editdist_Chars FU s).getD []
theorem chars_ok {s : List UInt8} (h : s.length ≤ 1000000000) : m_editdist_Chars FU s = some (chs s) ∧ (chs s).length ≤ s.length := by
  obtain ⟨t, h1, h2⟩ := iter_inv (σ := List Int × Nat) (f := fun x => m_editdist_Chars_L1 FU s x.1 x.2) (I := fun k x => k = s.length - x.2 ∧ x.1.length + (s.length - x.2) ≤ s.length) (Q := fun t : List Int × Nat => t.1.length ≤ s.length) (by
    rintro k ⟨l, p⟩ ⟨h1, h2⟩
    dsimp only at h1 h2
    simp only [m_editdist_Chars_L1, siN, Option.bind_some]
    by_cases hp : p < s.length
    · left
      have hw := width_pos31 ⟨s.toArray⟩ p (by simpa [ByteArray.size] using hp)
      simp only [if_pos hp]
      rw [app_one (by omega) (by omega), Option.bind_some, if_pos trivial]
      refine ⟨_, s.length - (p + (Utf8.decode ⟨s.toArray⟩ p).2), rfl, by omega, rfl, ?_⟩
      simp only [List.length_append, List.length_singleton]; omega
    · right
      simp only [if_neg hp]
      exact ⟨(l, p), rfl, by dsimp only; omega⟩) s.length FU ([], 0) ⟨by simp, by simp⟩ (by simp only [FU]; omega)
  have e : m_editdist_Chars FU s = some t.1 := by
    unfold m_editdist_Chars
    rw [h1]; rfl
  unfold chs
  rw [e]
  exact ⟨rfl, h2⟩

/-! ### the distance of two lists -/
def dd (a b : List Int) : Nat → Nat → Nat
  | 0, j => j
  | i + 1, 0 => i + 1
  | i + 1, j + 1 => if a.getD i 0 = b.getD j 0 then dd a b i j else 1 + min (min (dd a b i j) (dd a b (i + 1) j)) (dd a b i (j + 1))
termination_by i j => (i, j)
theorem dd_zero (a b : List Int) (j : Nat) : dd a b 0 j = j := by rw [dd]
theorem dd_left (a b : List Int) (i : Nat) : dd a b i 0 = i := by cases i <;> rw [dd]
theorem dd_step (a b : List Int) (i j : Nat) : dd a b (i + 1) (j + 1) = if a.getD i 0 = b.getD j 0 then dd a b i j else 1 + min (min (dd a b i j) (dd a b (i + 1) j)) (dd a b i (j + 1)) := by rw [dd]
theorem dd_comm (a b : List Int) : ∀ (k i j : Nat), i + j ≤ k → dd a b i j = dd b a j i := by
  intro k
  induction k with
  | zero =>
    intro i j h
    obtain rfl : i = 0 := by omega
    obtain rfl : j = 0 := by omega
    rw [dd_zero, dd_zero]
  | succ k ih =>
    intro i j h
    cases i with
    | zero => rw [dd_zero, dd_left]
    | succ i =>
      cases j with
      | zero => rw [dd_zero, dd_left]
      | succ j =>
        rw [dd_step, dd_step, ih i j (by omega), ih (i + 1) j (by omega), ih i (j + 1) (by omega)]
        by_cases e : a.getD i 0 = b.getD j 0
        · rw [if_pos e, if_pos e.symm]
        · rw [if_neg e, if_neg (fun h => e h.symm), Nat.min_right_comm]
theorem dd_le (a b : List Int) : ∀ (k i j : Nat), i + j ≤ k → dd a b i j ≤ i + j := by
  intro k
  induction k with
  | zero => intro i j h; obtain rfl : i = 0 := by omega
            rw [dd_zero]; omega
  | succ k ih =>
    intro i j h
    cases i with
    | zero => rw [dd_zero]; omega
    | succ i =>
      cases j with
      | zero => rw [dd_left]; omega
      | succ j =>
        rw [dd_step]
        have := ih i j (by omega)
        split
        · omega
        · have h1 : min (min (dd a b i j) (dd a b (i + 1) j)) (dd a b i (j + 1)) ≤ dd a b i j := Nat.le_trans (Nat.min_le_left _ _) (Nat.min_le_left _ _)
          omega
theorem dist_L1 {n m : Nat} {z : List Int} (hz : z.length = m + 1) (hm : m ≤ 1000000000) (hn : m + 1 < n) : ∃ r, iter n (fun s => m_editdist_Distance_L1 n z s.1 s.2) ((0 : Int), z) = some r ∧ r.length = m + 1 ∧ ∀ x, x ≤ m → r.getD x 0 = (x : Int) := by
  refine iter_inv (σ := Int × List Int) (I := fun k s => ∃ j : Nat, s.1 = j ∧ j + k = m + 1 ∧ s.2.length = m + 1 ∧ ∀ x, x < j → s.2.getD x 0 = (x : Int)) (Q := fun r : List Int => r.length = m + 1 ∧ ∀ x, x ≤ m → r.getD x 0 = (x : Int)) ?_ (m + 1) n _ ⟨0, rfl, by omega, hz, fun x hx => by omega⟩ hn
  rintro k ⟨c, r⟩ ⟨j, h1, h2, h3, h4⟩
  dsimp only at h1 h3 h4
  subst h1
  simp only [m_editdist_Distance_L1, hz]
  by_cases hk : k = 0
  · right
    refine ⟨r, by rw [if_neg (by simp; omega)], h3, fun x hx => h4 x (by omega)⟩
  · left
    rw [if_pos (by simp; omega), ix_get 0 (by omega), Option.bind_some, setI_some (by omega) (by omega), Option.bind_some, w64 (by omega) (by omega)]
    refine ⟨_, k - 1, rfl, by omega, j + 1, by simp, by omega, by simpa using h3, fun x hx => ?_⟩
    simp only [Int.toNat_natCast]
    rw [getD_set _ _ _ _ _ (by omega)]
    split
    · rename_i e; rw [e]
    · exact h4 x (by omega)
theorem dist_L3 {n : Nat} {a b : List Int} {i : Nat} {r : List Int} (hr : r.length = b.length + 1) (hb : b.length ≤ 1000000000) (hi : i < a.length) (ha : a.length ≤ 1000000000) (h0 : r.getD 0 0 = ((i + 1 : Nat) : Int)) (hrow : ∀ x, 0 < x → x ≤ b.length → r.getD x 0 = (dd a b i x : Nat)) (hn : b.length < n) :
    ∃ t, iter n (fun s => m_editdist_Distance_L3 n b (a.getD i 0) s.1 s.2.1 s.2.2) ((i : Int), (0 : Int), r) = some t ∧ t.length = b.length + 1 ∧ ∀ x, x ≤ b.length → t.getD x 0 = (dd a b (i + 1) x : Nat) := by
  refine iter_inv (σ := Int × Int × List Int) (I := fun k s => ∃ j : Nat, s.2.1 = j ∧ j + k = b.length ∧ s.2.2.length = b.length + 1 ∧ s.1 = (dd a b i j : Nat) ∧ (∀ x, x ≤ j → s.2.2.getD x 0 = (dd a b (i + 1) x : Nat)) ∧ ∀ x, j < x → x ≤ b.length → s.2.2.getD x 0 = (dd a b i x : Nat))
    (Q := fun t : List Int => t.length = b.length + 1 ∧ ∀ x, x ≤ b.length → t.getD x 0 = (dd a b (i + 1) x : Nat)) ?_ b.length n _ ⟨0, rfl, by omega, hr, by simp [dd_left], fun x hx => by
      obtain rfl : x = 0 := by omega
      rw [dd_left]; exact h0, fun x h1 h2 => hrow x h1 h2⟩ hn
  rintro k ⟨l, c, r⟩ ⟨j, h1, h2, h3, h4, h5, h6⟩
  dsimp only at h1 h3 h4 h5 h6
  subst h1 h4
  simp only [m_editdist_Distance_L3]
  by_cases hk : k = 0
  · right
    refine ⟨r, by rw [if_neg (by simp; omega)], h3, fun x hx => h5 x (by omega)⟩
  · left
    have hj : j < b.length := by omega
    have e1 : IntKind.i64.wrap ((j : Int) + 1) = ((j + 1 : Nat) : Int) := by rw [w64 (by omega) (by omega)]; omega
    have d1 := dd_le a b (i + j) i j (by omega)
    have d2 := dd_le a b (i + 1 + j) (i + 1) j (by omega)
    have d3 := dd_le a b (i + (j + 1)) i (j + 1) (by omega)
    rw [if_pos (by simp; omega), e1, ix_get 0 hj, Option.bind_some, ix_get (l := r) 0 (show j < r.length by omega), ix_get (l := r) 0 (show j + 1 < r.length by omega), h5 j (by omega), h6 (j + 1) (by omega) (by omega)]
    simp only [Option.bind_some]
    have hv : (if (!decide (a.getD i 0 = b.getD j 0)) = true then some (IntKind.i64.wrap (1 + min (min ((dd a b i j : Nat) : Int) ((dd a b (i + 1) j : Nat) : Int)) ((dd a b i (j + 1) : Nat) : Int))) else some ((dd a b i j : Nat) : Int) : Option Int) = some ((dd a b (i + 1) (j + 1) : Nat) : Int) := by
      rw [dd_step]
      by_cases e : a.getD i 0 = b.getD j 0
      · rw [if_neg (by simp only [e, decide_true, Bool.not_true]; decide), if_pos e]
      · rw [if_pos (by simp only [e, decide_false, Bool.not_false]), if_neg e, w64 (by omega) (by omega)]
        congr 1; omega
    rw [hv, Option.bind_some, setI_some (by omega) (by omega), Option.bind_some]
    refine ⟨_, k - 1, rfl, by omega, j + 1, rfl, by omega, by simpa using h3, rfl, fun x hx => ?_, fun x hx hx2 => ?_⟩
    · show (r.set ((j + 1 : Nat) : Int).toNat _).getD x 0 = _
      rw [Int.toNat_natCast, getD_set _ _ _ _ _ (by omega)]
      split
      · rename_i e; rw [e]
      · exact h5 x (by omega)
    · show (r.set ((j + 1 : Nat) : Int).toNat _).getD x 0 = _
      rw [Int.toNat_natCast, getD_set _ _ _ _ _ (by omega), if_neg (by omega)]
      exact h6 x (by omega) hx2
theorem distance_ok {a b : List Int} (ha : a.length ≤ 1000000000) (hb : b.length ≤ 1000000000) : m_editdist_Distance FU a b = some ((dd a b a.length b.length : Nat) : Int) := by
  unfold m_editdist_Distance
  have e1 : IntKind.i64.wrap ((b.length : Int) + 1) = ((b.length + 1 : Nat) : Int) := by rw [w64 (by omega) (by omega)]; omega
  rw [e1, mkL_some (by omega) (by omega) (by omega), Option.bind_some]
  obtain ⟨r, h1, h2, h3⟩ := dist_L1 (n := FU) (m := b.length) (z := List.replicate ((b.length + 1 : Nat) : Int).toNat 0) (by simp) hb (by simp only [FU]; omega)
  rw [h1, Option.bind_some]
  obtain ⟨t, h4, h5, h6⟩ := iter_inv (σ := Int × List Int) (f := fun s => m_editdist_Distance_L2 FU a b s.1 s.2) (I := fun k s => ∃ i : Nat, s.1 = i ∧ i + k = a.length ∧ s.2.length = b.length + 1 ∧ ∀ x, x ≤ b.length → s.2.getD x 0 = (dd a b i x : Nat))
    (Q := fun t : List Int => t.length = b.length + 1 ∧ ∀ x, x ≤ b.length → t.getD x 0 = (dd a b a.length x : Nat)) (by
    rintro k ⟨c, r⟩ ⟨i, h1, h2, h3, h4⟩
    dsimp only at h1 h3 h4
    subst h1
    simp only [m_editdist_Distance_L2]
    by_cases hk : k = 0
    · right
      have e0 : i = a.length := by omega
      subst e0
      exact ⟨r, by rw [if_neg (by simp)], h3, h4⟩
    · left
      have hi : i < a.length := by omega
      have e1 : IntKind.i64.wrap ((i : Int) + 1) = ((i + 1 : Nat) : Int) := by rw [w64 (by omega) (by omega)]; omega
      have g0 := h4 0 (by omega)
      rw [dd_left] at g0
      have g1 : ix r 0 = some ((i : Nat) : Int) := by rw [← g0]; exact ix_get (l := r) (i := 0) 0 (by omega)
      rw [if_pos (by simp; omega), e1, ix_get 0 hi, Option.bind_some, g1]
      simp only [Option.bind_some]
      rw [setI_some (by omega) (by omega), Option.bind_some]
      obtain ⟨t, q1, q2, q3⟩ := dist_L3 (n := FU) (a := a) (b := b) (i := i) (r := r.set 0 ((i + 1 : Nat) : Int)) (by simpa using h3) hb hi ha (by rw [getD_set _ _ _ _ _ (by omega), if_pos rfl]) (fun x hx hx2 => by
        rw [getD_set _ _ _ _ _ (by omega), if_neg (by omega)]; exact h4 x hx2) (by simp only [FU]; omega)
      have q1' : iter FU (fun s => m_editdist_Distance_L3 FU b (a.getD i 0) s.1 s.2.1 s.2.2) ((i : Int), (0 : Int), r.set (0 : Int).toNat ((i + 1 : Nat) : Int)) = some t := q1
      rw [q1', Option.bind_some]
      exact ⟨_, k - 1, rfl, by omega, i + 1, rfl, by omega, q2, q3⟩) a.length FU ((0 : Int), r) ⟨0, rfl, by omega, h2, fun x hx => by rw [dd_zero]; exact h3 x hx⟩ (by simp only [FU]; omega)
  rw [h4, Option.bind_some, ix_get 0 (by omega), Option.bind_some, Option.bind_some, h6 _ (Nat.le_refl _)]
noncomputable def nr (a b : List UInt8) : Bool := decide (dd (chs a) (chs b) (chs a).length (chs b).length ≤ 2)
theorem near_ok {a b : List UInt8} (ha : a.length ≤ 1000000000) (hb : b.length ≤ 1000000000) : m_match_near FU a b = some (nr a b) := by
  obtain ⟨c1, l1⟩ := chars_ok ha
  obtain ⟨c2, l2⟩ := chars_ok hb
  unfold m_match_near m_editdist_Text nr
  rw [c1, Option.bind_some, c2, Option.bind_some, distance_ok (by omega) (by omega)]
  simp only [Option.bind_some]
  congr 1
  rw [decide_eq_decide]; omega
theorem nr_comm (a b : List UInt8) : nr a b = nr b a := by
  unfold nr
  rw [dd_comm _ _ _ _ _ (Nat.le_refl _)]
end Go.Proofs.Ytgcmhhcopeiomaa.Ab
