/- The decimal notation of numbers: what is shown. Conditions: none. -/
import Derived.Test.YtagdgndoabomiaaDoorQb
namespace Go.Proofs.YtagdgndoabomiaaDoor.Ab
open Go

/-- The digits of a number, none of 0. -/
def decE (x : Nat) : List UInt8 := if x = 0 then [] else Lib.decDigits x
def ch (d : Nat) : UInt8 := UInt8.ofNat (48 + d)
theorem decE_step {y d : Nat} (hd : d < 10) : decE (10 * y + d) = if 10 * y + d = 0 then [] else decE y ++ [ch d] := by
  unfold decE
  by_cases h : 10 * y + d = 0
  · rw [if_pos h, if_pos h]
  · rw [if_neg h, if_neg h, Lib.decDigits]
    by_cases hy : y = 0
    · subst hy; rw [dif_pos (by omega), if_pos rfl]; simp [ch]
    · rw [dif_neg (by omega), if_neg hy, show (10 * y + d) / 10 = y by omega, show (10 * y + d) % 10 = d by omega]; rfl
theorem decE_div {x : Nat} (h : x ≠ 0) : decE x = decE (x / 10) ++ [ch (x % 10)] := by
  have := decE_step (y := x / 10) (d := x % 10) (by omega)
  rw [show 10 * (x / 10) + x % 10 = x by omega, if_neg h] at this
  exact this
theorem decE_len : ∀ (k : Nat) {x : Nat}, x < 10 ^ k → (decE x).length ≤ k
  | 0, x, h => by
    have : x = 0 := by simpa using h
    subst this; simp [decE]
  | k + 1, x, h => by
    by_cases hx : x = 0
    · subst hx; simp [decE]
    · rw [decE_div hx]
      have := decE_len k (x := x / 10) (by rw [Nat.pow_succ] at h; omega)
      simp; omega
def dec4 (x : Nat) : List UInt8 := [ch (x / 1000 % 10), ch (x / 100 % 10), ch (x / 10 % 10), ch (x % 10)]
theorem decE_four {x : Nat} (h : 10000 ≤ x) : decE x = decE (x / 10000) ++ dec4 x := by
  rw [decE_div (x := x) (by omega), decE_div (x := x / 10) (by omega), decE_div (x := x / 10 / 10) (by omega), decE_div (x := x / 10 / 10 / 10) (by omega)]
  rw [show x / 10 / 10 / 10 / 10 = x / 10000 by omega, show x / 10 / 10 / 10 = x / 1000 by omega, show x / 10 / 10 = x / 100 by omega]
  simp [dec4]
theorem dec_pad {r : Nat} (h : r < 10000) : List.replicate (4 - (Lib.decDigits r).length) 48 ++ Lib.decDigits r = dec4 r ∧ (Lib.decDigits r).length ≤ 4 := by
  have c0 : ch 0 = 48 := by decide
  by_cases h1 : r < 10
  · rw [Lib.decDigits_one h1]
    have e1 : r / 1000 % 10 = 0 := by omega
    have e2 : r / 100 % 10 = 0 := by omega
    have e3 : r / 10 % 10 = 0 := by omega
    have e4 : r % 10 = r := by omega
    simp [dec4, e1, e2, e3, e4, c0, ch, List.replicate]
  · by_cases h2 : r < 100
    · rw [Lib.decDigits_two h1 h2]
      have e1 : r / 1000 % 10 = 0 := by omega
      have e2 : r / 100 % 10 = 0 := by omega
      have e3 : r / 10 % 10 = r / 10 := by omega
      simp [dec4, e1, e2, e3, c0, ch, List.replicate]
    · by_cases h3 : r < 1000
      · rw [Lib.decDigits, dif_neg (by omega), Lib.decDigits_two (by omega) (by omega)]
        have e1 : r / 1000 % 10 = 0 := by omega
        have e2 : r / 100 % 10 = r / 10 / 10 := by omega
        simp [dec4, e1, e2, c0, ch, List.replicate]
      · rw [Lib.decDigits, dif_neg (by omega), Lib.decDigits, dif_neg (by omega), Lib.decDigits_two (by omega) (by omega)]
        have e1 : r / 1000 % 10 = r / 10 / 10 / 10 := by omega
        have e2 : r / 100 % 10 = r / 10 / 10 % 10 := by omega
        simp [dec4, e1, e2, ch]
theorem dec4_mod (x : Nat) : dec4 (x % 10000) = dec4 x := by
  unfold dec4
  rw [show x % 10000 / 1000 % 10 = x / 1000 % 10 by omega, show x % 10000 / 100 % 10 = x / 100 % 10 by omega, show x % 10000 / 10 % 10 = x / 10 % 10 by omega, show x % 10000 % 10 = x % 10 by omega]
theorem lim_gen (k : Nat) : 65536 ^ k ≤ 10 ^ (5 * k) := by
  rw [Nat.pow_mul]
  exact Nat.pow_le_pow_left (by decide) k
theorem lim_k {k : Nat} (h : k = 128) : ∃ K, K = 640 ∧ 65536 ^ k ≤ 10 ^ K := ⟨5 * k, by omega, lim_gen k⟩
theorem lim_dec' : ∃ K, K = 640 ∧ LIM ≤ 10 ^ K := lim_k (k := 128) rfl
theorem small_limbs {m : Nat} (h0 : 0 < m) (h : m < 65536) : limbs m = [(m : Int)] := by
  rw [limbs_pos (by omega), show m / 65536 = 0 by omega, limbs_zero, show m % 65536 = m by omega]
theorem limbs_get0 (m : Nat) : (limbs m).getD 0 0 = ((m % 65536 : Nat) : Int) := by
  by_cases h : m = 0
  · subst h; rw [limbs_zero]; rfl
  · rw [limbs_pos h]; rfl
theorem appS_some {a b : List UInt8} (h : a.length + b.length ≤ 100000000000) : appS a b = some (a ++ b) := by
  rw [appS, if_pos (by omega)]
theorem limbs_zero_iff {m : Nat} : (0 : Int) < ((limbs m).length : Int) ↔ m ≠ 0 := by
  have := @limbs_len0 m
  omega
theorem pad_loop {v : List Int × List Int} {s : List UInt8} (hq : (0 : Int) < (v.1.length : Int)) (hs : s.length ≤ 4) :
    iter FU (fun s => m_nat_Show_L2 FU v s) s = some (List.replicate (4 - s.length) 48 ++ s) := by
  obtain ⟨t, h1, h2⟩ := iter_inv (σ := List UInt8) (f := fun s => m_nat_Show_L2 FU v s)
    (I := fun k u => ∃ j, u = List.replicate j 48 ++ s ∧ j + s.length + k = 4)
    (Q := fun t => t = List.replicate (4 - s.length) 48 ++ s) (by
      rintro k u ⟨j, rfl, hj⟩
      simp only [m_nat_Show_L2]
      by_cases hk : k = 0
      · right
        refine ⟨_, by rw [decide_eq_false (show ¬ ((List.replicate j (48 : UInt8) ++ s).length : Int) < 4 by simp; omega)]; simp; rfl, by rw [show 4 - s.length = j by omega]⟩
      · left
        refine ⟨_, k - 1, by rw [decide_eq_true hq, decide_eq_true (show ((List.replicate j (48 : UInt8) ++ s).length : Int) < 4 by simp; omega)]; simp only [Bool.and_self, if_true]; rw [appS_some (by simp; omega)]; rfl, by omega, j + 1, ?_, by omega⟩
        rw [List.replicate_succ]; rfl) (4 - s.length) FU s ⟨0, by simp, by omega⟩ (by simp only [FU]; omega)
  rw [h1, h2]
theorem nat_Show {x : Nat} (hx : x < LIM) : m_nat_Show FU (limbs x) = some (Lib.decDigits x, 0) := by
  unfold m_nat_Show
  rw [valid_limbs hx fu4, Option.bind_some]
  simp only [Bool.not_true, Bool.false_eq_true, if_false]
  by_cases h0 : x = 0
  · subst h0
    rw [limbs_zero]
    simp only [List.length_nil, Int.natCast_zero, decide_true, if_true]
    rw [Lib.decDigits_one (by decide)]; rfl
  · rw [decide_eq_false (by have := (@limbs_zero_iff x).2 h0; omega)]
    simp only [Bool.false_eq_true, if_false]
    obtain ⟨K, hK, lim_dec⟩ := lim_dec'
    have hlen : (decE x).length ≤ 640 := hK ▸ decE_len K (Nat.lt_of_lt_of_le hx lim_dec)
    obtain ⟨t, h1, h2⟩ := iter_inv (σ := List UInt8 × List Int) (f := fun s => m_nat_Show_L1 FU s.1 s.2)
      (I := fun k s => ∃ y, s.2 = limbs y ∧ y < LIM ∧ y < 10 ^ k ∧ decE x = decE y ++ s.1)
      (Q := fun t => t = decE x) (by
        rintro k ⟨o, l⟩ ⟨y, rfl, hy, hyk, he⟩
        dsimp only at he
        simp only [m_nat_Show_L1]
        by_cases hy0 : y = 0
        · right
          subst hy0
          refine ⟨o, by rw [limbs_zero]; rfl, ?_⟩
          rw [he]; simp [decE]
        · left
          have hlo : (decE y).length + o.length ≤ 640 := by rw [he] at hlen; simpa using hlen
          rw [decide_eq_true (limbs_zero_iff.2 hy0), if_pos rfl]
          have e10 : ([(10000 : Int)] : List Int) = limbs 10000 := (small_limbs (m := 10000) (by decide) (by decide)).symm
          have hl := lim_len.2 hy
          rw [e10, nat_divide (by decide) (by omega) (by rw [small_limbs (by decide) (by decide)]; simp) fu5, Option.bind_some]
          dsimp only
          rw [show (0 : Int) = ((0 : Nat) : Int) from rfl, nat_digit, Option.bind_some, limbs_get0, show y % 10000 % 65536 = y % 10000 by omega]
          unfold itoaM
          rw [if_pos (by omega), Option.bind_some]
          unfold Lib.itoa
          rw [if_neg (by omega), Int.toNat_natCast]
          have hp := dec_pad (r := y % 10000) (by omega)
          by_cases hq : y < 10000
          · rw [show y / 10000 = 0 by omega, show y % 10000 = y by omega, limbs_zero]
            have : iter FU (fun s => m_nat_Show_L2 FU (([] : List Int), limbs y) s) (Lib.decDigits y) = some (Lib.decDigits y) := rfl
            rw [this, Option.bind_some, appS_some (by have := hp.2; rw [show y % 10000 = y by omega] at this; omega), Option.bind_some]
            have hk : k ≠ 0 := by rintro rfl; simp at hyk; omega
            refine ⟨_, k - 1, rfl, by omega, 0, limbs_zero.symm, by unfold LIM; exact Nat.pow_pos (by decide), Nat.pow_pos (by decide), ?_⟩
            dsimp only
            rw [he]; simp [decE, hy0]
          · rw [pad_loop (limbs_zero_iff.2 (show y / 10000 ≠ 0 by omega)) hp.2, Option.bind_some, hp.1, dec4_mod, appS_some (by simp [dec4]; omega), Option.bind_some]
            have hk : k ≠ 0 := by rintro rfl; simp at hyk; omega
            refine ⟨_, k - 1, rfl, by omega, y / 10000, rfl, by omega, ?_, ?_⟩
            · have : y < 10 * 10 ^ (k - 1) := by rw [← Nat.pow_succ', show (k - 1).succ = k by omega]; exact hyk
              omega
            · dsimp only
              rw [he, decE_four (by omega), List.append_assoc]) K FU ([], limbs x) ⟨x, rfl, hx, Nat.lt_of_lt_of_le hx lim_dec, by simp⟩ (by rw [hK]; decide)
    rw [h1, Option.bind_some, h2]
    simp [decE, h0]
theorem short_div {y : Nat} (hy : (limbs y).length ≤ 400) :
    ∃ t : Int × List Int, iter FU (fun s => m_ref03_Show_L2 FU (limbs y) s.1 s.2.1 s.2.2) ((0 : Int), ((limbs y).length : Int) - 1, List.replicate (limbs y).length 0) = some t ∧ t.1 = ((y % 10 : Nat) : Int) ∧ t.2.length ≤ 400 ∧ digs t.2 ∧ trim t.2 = limbs (y / 10) := by
  generalize hA : limbs y = a at *
  have ha : digs a := hA ▸ digs_limbs y
  have vA : val a = y := by rw [← hA, val_limbs]
  obtain ⟨t, h1, h2, h3, h4, h5⟩ := iter_inv (σ := Int × Int × List Int) (τ := Int × List Int) (f := fun s => m_ref03_Show_L2 FU a s.1 s.2.1 s.2.2)
    (I := fun k s => k ≤ a.length ∧ s.2.1 = (k : Int) - 1 ∧ 0 ≤ s.1 ∧ s.1 < 10 ∧ s.2.2.length = a.length ∧ digs s.2.2 ∧ val (a.drop k) = 10 * val (s.2.2.drop k) + s.1)
    (Q := fun t => t.2.length = a.length ∧ digs t.2 ∧ (0 ≤ t.1 ∧ t.1 < 10) ∧ val a = 10 * val t.2 + t.1) (by
      rintro k ⟨r, i, q⟩ ⟨g1, g2, g3, g4, g5, g6, g7⟩
      dsimp only at g2 g3 g4 g5 g6 g7
      subst g2
      simp only [m_ref03_Show_L2]
      by_cases hk : k = 0
      · right
        subst hk
        exact ⟨(r, q), by rw [decide_eq_false (by omega)]; rfl, g5, g6, ⟨g3, g4⟩, by simpa using g7⟩
      · left
        obtain ⟨m, rfl⟩ : ∃ m, k = m + 1 := ⟨k - 1, by omega⟩
        have e1 : ((m + 1 : Nat) : Int) - 1 = (m : Int) := by omega
        rw [e1, decide_eq_true (by omega), if_pos rfl]
        have b1 := digs_getD ha m
        simp (disch := omega) only [ixI, Option.bind_some, Int.toNat_natCast, w64, quoN, remN, setI_some]
        refine ⟨_, m, rfl, by omega, by omega, rfl, by dsimp only; omega, by dsimp only; omega, by simp [g5], digs_set g6 (by omega) (by omega), ?_⟩
        dsimp only
        rw [drop_set_self _ (by omega), val]
        have ed : a.drop m = a.getD m 0 :: a.drop (m + 1) := by
          rw [List.drop_eq_getElem_cons (by omega)]
          simp [show m < a.length by omega]
        rw [ed, val, g7]
        omega) a.length FU (0, (a.length : Int) - 1, List.replicate a.length 0) ⟨Nat.le_refl _, rfl, by omega, by omega, by simp, digs_zeros _, by simp [val]⟩ (by simp only [FU]; omega)
  have hb := val_bounds h3
  refine ⟨t, h1, by omega, by omega, h3, ?_⟩
  unfold trim
  congr 1
  omega
theorem ref_Show {x : Nat} (hx : x < LIM) : m_ref03_Show FU (limbs x) = some (Lib.decDigits x, 0) := by
  unfold m_ref03_Show
  rw [ref_valid_limbs hx fu4, Option.bind_some]
  simp only [Bool.not_true, Bool.false_eq_true, if_false]
  by_cases h0 : x = 0
  · subst h0
    rw [limbs_zero]
    simp only [List.length_nil, Int.natCast_zero, decide_true, if_true]
    rw [Lib.decDigits_one (by decide)]; rfl
  · rw [decide_eq_false (by have := (@limbs_zero_iff x).2 h0; omega)]
    simp only [Bool.false_eq_true, if_false]
    obtain ⟨K, hK, lim_dec⟩ := lim_dec'
    have hlen : (decE x).length ≤ 640 := hK ▸ decE_len K (Nat.lt_of_lt_of_le hx lim_dec)
    obtain ⟨t, h1, h2⟩ := iter_inv (σ := List Int × List UInt8) (f := fun s => m_ref03_Show_L1 FU s.1 s.2)
      (I := fun k s => ∃ y, s.1 = limbs y ∧ y < LIM ∧ y < 10 ^ k ∧ decE x = decE y ++ s.2)
      (Q := fun t => t = decE x) (by
        rintro k ⟨l, o⟩ ⟨y, rfl, hy, hyk, he⟩
        dsimp only at he
        simp only [m_ref03_Show_L1]
        by_cases hy0 : y = 0
        · right
          subst hy0
          refine ⟨o, by rw [limbs_zero]; rfl, ?_⟩
          rw [he]; simp [decE]
        · left
          have hlo : (decE y).length + o.length ≤ 640 := by rw [he] at hlen; simpa using hlen
          rw [decide_eq_true (limbs_zero_iff.2 hy0), if_pos rfl]
          have hl := lim_len.2 hy
          rw [mkL_some (by decide) (by omega) (by omega), Option.bind_some, Int.toNat_natCast, w64 (x := ((limbs y).length : Int) - 1) (by omega) (by omega)]
          obtain ⟨t, t1, t2, t3, t4, t5⟩ := short_div (y := y) (by omega)
          rw [t1, Option.bind_some, t2, w64 (by omega) (by omega), wrap_u8 (by omega) (by omega)]
          have e1 : textL [(48 : Int) + ((y % 10 : Nat) : Int)] = [ch (y % 10)] := by
            simp only [textL, List.map_cons, List.map_nil, ch]
            rw [show ((48 : Int) + ((y % 10 : Nat) : Int)).toNat = 48 + y % 10 by omega]
          rw [e1, appS_some (by simp; omega), Option.bind_some, ref_trim t4 (by omega) fu4, Option.bind_some, t5]
          have hk : k ≠ 0 := by rintro rfl; simp at hyk; omega
          refine ⟨_, k - 1, rfl, by omega, y / 10, rfl, by omega, ?_, ?_⟩
          · have : y < 10 * 10 ^ (k - 1) := by rw [← Nat.pow_succ', show (k - 1).succ = k by omega]; exact hyk
            omega
          · dsimp only
            rw [he, decE_div hy0, List.append_assoc]) K FU (limbs x, []) ⟨x, rfl, hx, Nat.lt_of_lt_of_le hx lim_dec, by simp⟩ (by rw [hK]; decide)
    rw [h1, Option.bind_some, h2]
    simp [decE, h0]
end Go.Proofs.YtagdgndoabomiaaDoor.Ab
