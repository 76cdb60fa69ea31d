/- Laws on numbers, without the reference. Conditions: none. -/
import Derived.Test.YtagdgndoabomiaaDoorQb
namespace Go.Proofs.YtagdgndoabomiaaDoor.Ab
open Go

theorem valid_list {k : Nat} {L : List (List Int)} (hL : L.length ≤ 1000) (h : ∀ a ∈ L, a.length ≤ ML) : m_law03_valid FU (k : Int) L = some (L.all fun a => vld a && decide (a.length ≤ k)) := by
  unfold m_law03_valid
  rcases iter_scan (f := fun s => m_law03_valid_L1 FU (k : Int) L s) L.length (fun i => !(vld (L.getD i []) && decide ((L.getD i []).length ≤ k))) (fun _ => .inl false) (.inr ()) L.length 0 FU 0 (by omega) (fun j hj => by
    have hm : L.getD j [] ∈ L := by simp [hj]
    have hl := h _ hm
    simp only [m_law03_valid_L1, show (j : Int) < L.length by omega, decide_true, if_true]
    rw [ix_get [] hj, Option.bind_some]
    generalize L.getD j [] = a at *
    rw [ref_Valid hl (fuM hl), Option.bind_some, wadd1 (show j < 1000 by omega) (by decide)]
    by_cases h1 : a.length ≤ k
    · cases vld a <;> simp [h1, show ¬ (k : Int) < a.length by omega]
    · cases vld a <;> simp [h1, show (k : Int) < a.length by omega]) (by simp [m_law03_valid_L1]) (by simp only [FU]; omega) rfl with ⟨i, _, h2, h3, _, h5⟩ | ⟨h1, h2⟩
  · rw [h5]
    have : (L.all fun a => vld a && decide (a.length ≤ k)) = false := by
      rw [List.all_eq_false]
      exact ⟨L.getD i [], by simp [h2], by rw [Bool.not_eq_true'] at h3; rw [h3]; decide⟩
    rw [this]; rfl
  · rw [h2]
    have : (L.all fun a => vld a && decide (a.length ≤ k)) = true := by
      rw [List.all_eq_true]
      intro d hd
      obtain ⟨i, h, rfl⟩ := List.getElem_of_mem hd
      have := h1 i (by omega) h
      simpa [List.getD_eq_getElem?_getD, h] using this
    rw [this]; rfl
def B20 : Nat := 65536 ^ 20
theorem b20_lim : B20 * B20 * B20 + B20 * B20 * B20 + B20 * B20 * B20 < LIM := by decide +kernel
theorem b20_pos : 2 ≤ B20 := by decide +kernel
theorem vld20 {a : List Int} (h : vld a = true ∧ decide (a.length ≤ 20) = true) : ∃ x, x < B20 ∧ a = limbs x := by
  rw [decide_eq_true_eq] at h
  obtain ⟨x, _, rfl⟩ := vld_inv h.1
  exact ⟨x, limbs_len.1 h.2, rfl⟩
theorem mul_lt {x y a b : Nat} (hx : x < a) (hy : y < b) : x * y < a * b := by
  have h1 : x * y ≤ x * b := Nat.mul_le_mul_left x (Nat.le_of_lt hy)
  have h2 : x * b < a * b := Nat.mul_lt_mul_of_pos_right hx (by omega)
  omega
theorem b20_le : B20 ≤ B20 * B20 ∧ B20 * B20 ≤ B20 * B20 * B20 := by
  have := b20_pos
  have h1 : B20 * 1 ≤ B20 * B20 := Nat.mul_le_mul_left _ (by omega)
  have h2 : B20 * B20 * 1 ≤ B20 * B20 * B20 := Nat.mul_le_mul_left _ (by omega)
  omega
theorem same_lim {x y : Nat} (h : x < LIM) : m_ref03_Same FU (limbs x) (limbs y) = some (decide (x = y)) := same_limbs (Nat.le_trans (lim_len.2 h) (by decide)) fu4
theorem add_lim {x y : Nat} (hx : x < LIM) (hy : y < LIM) (h : x + y < LIM) : m_nat_Add FU (limbs x) (limbs y) = some (limbs (x + y), 0) := by rw [nat_Add hx hy fu4, if_pos h]
theorem mul_lim {x y : Nat} (hx : x < LIM) (hy : y < LIM) (h : x * y < LIM) : m_nat_Mul FU (limbs x) (limbs y) = some (limbs (x * y), 0) := by rw [nat_Mul hx hy fu4, if_pos h]
theorem plain_NatRing {a b c : List Int} (la : a.length ≤ ML) (lb : b.length ≤ ML) (lc : c.length ≤ ML) : m_law03_NatRing FU a b c = some true := by
  unfold m_law03_NatRing
  rw [awake03, Option.bind_some]
  have hv := valid_list (k := 20) (L := [a, b, c]) (by simp) (by simp [la, lb, lc])
  rw [show ((20 : Nat) : Int) = 20 from rfl] at hv
  simp only [Bool.not_true, Bool.not_false, if_true]
  rw [hv, Option.bind_some]
  cases h : ([a, b, c].all fun a => vld a && decide (a.length ≤ 20)) with
  | false => simp
  | true =>
    simp only [List.all_cons, List.all_nil, Bool.and_true, Bool.and_eq_true] at h
    obtain ⟨x, hx, rfl⟩ := vld20 h.1
    obtain ⟨y, hy, rfl⟩ := vld20 h.2.1
    obtain ⟨z, hz, rfl⟩ := vld20 h.2.2
    have k1 := b20_lim
    have k2 := b20_le
    have k3 := mul_lt hx hy
    have k4 := mul_lt hy hz
    have k5 := mul_lt hx hz
    have k6 := mul_lt k3 hz
    have k7 : x * (y * z) = x * y * z := by grind
    have k8 : x * (y + z) = x * y + x * z := by grind
    have k9 : y * x = x * y := Nat.mul_comm _ _
    simp only [Bool.not_true, Bool.or_self, Bool.false_eq_true, if_false]
    clear h hv la lb lc
    generalize B20 * B20 * B20 = P3 at *
    generalize B20 * B20 = P2 at *
    generalize B20 = P1 at *
    have e1 := add_lim (x := x) (y := y) (by omega) (by omega) (by omega)
    have e2 := add_lim (x := y) (y := x) (by omega) (by omega) (by omega)
    have e3 := add_lim (x := y) (y := z) (by omega) (by omega) (by omega)
    have e4 := add_lim (x := x + y) (y := z) (by omega) (by omega) (by omega)
    have e5 := add_lim (x := x) (y := y + z) (by omega) (by omega) (by omega)
    have e6 : m_nat_Sub FU (limbs (x + y)) (limbs y) = some (limbs x, 0) := by
      rw [nat_Sub (by omega) (by omega) fu4, if_neg (by omega), Nat.add_sub_cancel]
    have e7 := mul_lim (x := x) (y := y) (by omega) (by omega) (by omega)
    have e8 := mul_lim (x := y) (y := x) (by omega) (by omega) (by omega)
    have e9 := mul_lim (x := y) (y := z) (by omega) (by omega) (by omega)
    have e10 := mul_lim (x := x * y) (y := z) (by omega) (by omega) (by omega)
    have e11 := mul_lim (x := x) (y := y * z) (by omega) (by omega) (by omega)
    have e12 := mul_lim (x := x) (y := y + z) (by omega) (by omega) (by omega)
    have e13 := mul_lim (x := x) (y := z) (by omega) (by omega) (by omega)
    have e14 := add_lim (x := x * y) (y := x * z) (by omega) (by omega) (by omega)
    have s1 := same_lim (x := x + y) (y := y + x) (by omega)
    have s2 := same_lim (x := x + y + z) (y := x + (y + z)) (by omega)
    have s3 := same_lim (x := x) (y := x) (by omega)
    have s4 := same_lim (x := x * y) (y := y * x) (by omega)
    have s5 := same_lim (x := x * y * z) (y := x * (y * z)) (by omega)
    have s6 := same_lim (x := x * (y + z)) (y := x * y + x * z) (by omega)
    rw [decide_eq_true (by omega)] at s1 s2 s3 s4 s5 s6
    rw [e1, Option.bind_some, e2, Option.bind_some, e3, Option.bind_some]
    dsimp only
    rw [e4, Option.bind_some, e5, Option.bind_some, e6, Option.bind_some]
    simp only [decide_true, Bool.not_true, Bool.or_self, Bool.not_false, if_true, s1, s2, s3, Option.bind_some, Bool.false_eq_true, if_false]
    rw [e7, Option.bind_some, e8, Option.bind_some, e9, Option.bind_some]
    dsimp only
    rw [e10, Option.bind_some, e11, Option.bind_some]
    simp only [decide_true, Bool.not_true, Bool.or_self, Bool.not_false, if_true, s4, s5, Option.bind_some, Bool.false_eq_true, if_false]
    rw [e12, Option.bind_some, e13, Option.bind_some]
    dsimp only
    rw [e14, Option.bind_some]
    simp only [decide_true, Bool.and_self, if_true, s6, Option.bind_some]
theorem gcd_div {x y : Nat} (h : 0 < Nat.gcd x y) : Nat.gcd (x / Nat.gcd x y) (y / Nat.gcd x y) = 1 := by
  rw [Nat.gcd_div (Nat.gcd_dvd_left x y) (Nat.gcd_dvd_right x y), Nat.div_self h]
theorem plain_NatDivides {a b : List Int} (la : a.length ≤ ML) (lb : b.length ≤ ML) : m_law03_NatDivides FU a b = some true := by
  unfold m_law03_NatDivides
  rw [awake03, Option.bind_some]
  have hv := valid_list (k := 20) (L := [a, b]) (by simp) (by simp [la, lb])
  rw [show ((20 : Nat) : Int) = 20 from rfl] at hv
  simp only [Bool.not_true, Bool.not_false, if_true]
  rw [hv, Option.bind_some]
  cases h : ([a, b].all fun a => vld a && decide (a.length ≤ 20)) with
  | false => simp
  | true =>
    simp only [List.all_cons, List.all_nil, Bool.and_true, Bool.and_eq_true] at h
    obtain ⟨x, hx, rfl⟩ := vld20 h.1
    obtain ⟨y, hy, rfl⟩ := vld20 h.2
    by_cases h0 : y = 0
    · subst h0; simp [limbs_zero]
    · have l0 : ¬ ((limbs y).length : Int) = 0 := fun hc => h0 (limbs_len0.1 (by omega))
      have k1 := b20_lim
      have k2 := b20_le
      have hyp : 0 < y := by omega
      have xl : x < LIM := by omega
      have yl : y < LIM := by omega
      have d1 : x / y ≤ x := Nat.div_le_self _ _
      have d2 := Nat.mod_lt x hyp
      have d3 := Nat.div_add_mod x y
      have d4 : x / y * y ≤ x := Nat.div_mul_le_self _ _
      have d5 : x / y * y + x % y = x := by rw [Nat.mul_comm]; exact d3
      have g0 : 0 < Nat.gcd x y := Nat.gcd_pos_of_pos_right _ hyp
      have gl := gcd_lim xl yl
      have m1 : x % Nat.gcd x y = 0 := Nat.mod_eq_zero_of_dvd (Nat.gcd_dvd_left x y)
      have m2 : y % Nat.gcd x y = 0 := Nat.mod_eq_zero_of_dvd (Nat.gcd_dvd_right x y)
      have d6 : x / Nat.gcd x y ≤ x := Nat.div_le_self _ _
      have d7 : y / Nat.gcd x y ≤ y := Nat.div_le_self _ _
      have e1 := nat_Divide xl yl hyp fu5
      have e2 := mul_lim (x := x / y) (y := y) (by omega) yl (by omega)
      have e3 := add_lim (x := x / y * y) (y := x % y) (by omega) (by omega) (by omega)
      have e4 := nat_Compare (n := FU) (x := x % y) (y := y) (by omega) yl fu4
      have e5 := nat_Gcd xl yl fu5
      have e6 := nat_Divide xl gl g0 fu5
      have e7 := nat_Divide yl gl g0 fu5
      have e8 := nat_Gcd (n := FU) (x := x / Nat.gcd x y) (y := y / Nat.gcd x y) (by omega) (by omega) fu5
      have e9 := nat_Gcd yl xl fu5
      rw [m1, limbs_zero] at e6
      rw [m2, limbs_zero] at e7
      rw [gcd_div g0] at e8
      have s1 := same_lim (x := x) (y := x) xl
      rw [d5] at e3
      have s2 : m_ref03_Same FU (limbs 1) [1] = some true := by rw [one_limbs, same_lim (by omega)]; rfl
      have s3 := same_lim (x := Nat.gcd y x) (y := Nat.gcd x y) (by rw [Nat.gcd_comm]; exact gl)
      rw [decide_eq_true rfl] at s1
      rw [decide_eq_true (Nat.gcd_comm y x)] at s3
      simp only [l0, decide_false, Bool.not_true, Bool.or_self, Bool.false_eq_true, if_false]
      rw [e1, Option.bind_some]
      dsimp only
      rw [e2, Option.bind_some]
      dsimp only
      rw [e3, Option.bind_some]
      simp only [decide_true, Bool.not_true, Bool.or_self, Bool.not_false, if_true, s1, Option.bind_some, e4]
      have hs : ¬ 0 ≤ sgn (x % y) y := by
        have := sgn_lt.2 d2; omega
      simp only [hs, decide_false, Bool.or_self, Bool.false_eq_true, if_false]
      rw [e5, Option.bind_some]
      dsimp only
      rw [e6, Option.bind_some, e7, Option.bind_some]
      dsimp only
      rw [e8, Option.bind_some, e9, Option.bind_some]
      simp only [decide_true, Bool.and_self, if_true, s2, s3, Option.bind_some, List.length_nil, Int.ofNat_zero, Int.natCast_zero]
theorem plain_NatOrder {a b c : List Int} (la : a.length ≤ ML) (lb : b.length ≤ ML) (lc : c.length ≤ ML) : m_law03_NatOrder FU a b c = some true := by
  unfold m_law03_NatOrder
  rw [awake03, Option.bind_some]
  have hv := valid_list (k := 20) (L := [a, b, c]) (by simp) (by simp [la, lb, lc])
  rw [show ((20 : Nat) : Int) = 20 from rfl] at hv
  simp only [Bool.not_true, Bool.not_false, if_true]
  rw [hv, Option.bind_some]
  cases h : ([a, b, c].all fun a => vld a && decide (a.length ≤ 20)) with
  | false => simp
  | true =>
    simp only [List.all_cons, List.all_nil, Bool.and_true, Bool.and_eq_true] at h
    obtain ⟨x, hx, rfl⟩ := vld20 h.1
    obtain ⟨y, hy, rfl⟩ := vld20 h.2.1
    obtain ⟨z, hz, rfl⟩ := vld20 h.2.2
    have k1 := b20_lim
    have k2 := b20_le
    have k5 := mul_lt hx hz
    have k4 := mul_lt hy hz
    simp only [Bool.not_true, Bool.or_self, Bool.false_eq_true, if_false]
    have zl : (limbs z).length = 0 ↔ z = 0 := limbs_len0
    clear h hv la lb lc
    generalize B20 * B20 * B20 = P3 at *
    generalize B20 * B20 = P2 at *
    generalize B20 = P1 at *
    rw [nat_Compare (by omega) (by omega) fu4, Option.bind_some, nat_Compare (by omega) (by omega) fu4, Option.bind_some, nat_Compare (by omega) (by omega) fu4, Option.bind_some, nat_Compare (by omega) (by omega) fu4, Option.bind_some]
    have hs : sgn x y = IntKind.i64.wrap (-sgn y x) := by
      have : -1 ≤ sgn y x ∧ sgn y x ≤ 1 := by unfold sgn; split <;> (try split) <;> omega
      rw [w64 (by omega) (by omega)]
      unfold sgn; split <;> split <;> (try split) <;> (try split) <;> omega
    rw [same_lim (by omega)]
    have e12 := add_lim (x := x) (y := z) (by omega) (by omega) (by omega)
    have e13 := add_lim (x := y) (y := z) (by omega) (by omega) (by omega)
    have e14 := mul_lim (x := x) (y := z) (by omega) (by omega) (by omega)
    have e15 := mul_lim (x := y) (y := z) (by omega) (by omega) (by omega)
    have c1 := nat_Compare (n := FU) (x := x + z) (y := y + z) (by omega) (by omega) fu4
    have c2 := nat_Compare (n := FU) (x := x * z) (y := y * z) (by omega) (by omega) fu4
    have t1 : sgn (x + z) (y + z) = sgn x y := by unfold sgn; split <;> (try split) <;> (try split) <;> (try split) <;> omega
    have t2 : z ≠ 0 → sgn (x * z) (y * z) = sgn x y := fun h => by
      rw [Nat.mul_comm x, Nat.mul_comm y]
      unfold sgn
      have h1 : z * x < z * y ↔ x < y := Nat.mul_lt_mul_left (by omega)
      have h2 : z * x = z * y ↔ x = y := Nat.mul_right_inj h
      simp only [h1, h2]
    have q1 : (decide (sgn x y = 0) == decide (x = y)) = true := by
      by_cases h : x = y
      · subst h; simp [sgn]
      · simp [h, mt sgn_eq.1 h]
    have q2 : (decide (sgn x y < 0) && decide (sgn y z < 0) && decide (0 ≤ sgn x z)) = false := by
      have a1 := @sgn_lt x y
      have a2 := @sgn_lt y z
      have a3 := @sgn_lt x z
      by_cases h1 : x < y <;> by_cases h2 : y < z <;> simp [a1, a2, h1, h2]
      have := a3.2 (by omega)
      omega
    have q3 : (decide (sgn x y ≤ 0) && decide (sgn y z ≤ 0) && decide (0 < sgn x z)) = false := by
      have a1 := @sgn_le x y
      have a2 := @sgn_le y z
      have a3 := @sgn_le x z
      by_cases h1 : x ≤ y <;> by_cases h2 : y ≤ z <;> simp [a1, a2, h1, h2]
      have := a3.2 (by omega)
      omega
    rw [← hs]
    simp only [decide_true, Bool.not_true, Bool.not_false, if_true, Option.bind_some, q1, q2, q3, Bool.or_self, Bool.false_eq_true, if_false]
    rw [e12, Option.bind_some, e13, Option.bind_some, e14, Option.bind_some, e15, Option.bind_some]
    dsimp only
    rw [c1, c2, t1]
    by_cases h0 : z = 0
    · simp [zl.2 h0]
    · simp [t2 h0, limbs_ne h0]
end Go.Proofs.YtagdgndoabomiaaDoor.Ab
