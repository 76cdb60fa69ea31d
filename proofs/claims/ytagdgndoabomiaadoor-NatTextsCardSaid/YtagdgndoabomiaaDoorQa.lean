/- Sums and differences, and what both make of any lists. Conditions: none. -/
import Derived.Test.YtagdgndoabomiaaDoorNf
import Derived.Test.YtagdgndoabomiaaDoorOk
namespace Go.Proofs.YtagdgndoabomiaaDoor.Ab
open Go

theorem u8_ok {x : Int} (h : (Lit.int .u8 x).wf = true) : 0 ≤ x ∧ x ≤ 255 := by
  simp [Lit.wf, IntKind.min, IntKind.max, IntKind.signed, IntKind.bits] at h; omega
theorem u16_ok {x : Int} (h : (Lit.int .u16 x).wf = true) : 0 ≤ x ∧ x ≤ 65535 := by
  simp [Lit.wf, IntKind.min, IntKind.max, IntKind.signed, IntKind.bits] at h; omega
theorem i64_ok {x : Int} (h : (Lit.int .i64 x).wf = true) : -9223372036854775808 ≤ x ∧ x ≤ 9223372036854775807 := by
  simp [Lit.wf, IntKind.min, IntKind.max, IntKind.signed, IntKind.bits] at h; omega

theorem fu4 : 10000 < FU := by decide
theorem fu5 : 100000 < FU := by decide
theorem fuM {k : Nat} (h : k ≤ ML) : k < FU := Nat.lt_of_le_of_lt h (by decide)
theorem pow_mono {a b : Nat} (h : a ≤ b) : (65536 : Int) ^ a ≤ 65536 ^ b := by
  have := Nat.pow_le_pow_right (n := 65536) (by decide) h
  have e1 : ((65536 ^ a : Nat) : Int) = (65536 : Int) ^ a := by simp
  have e2 : ((65536 ^ b : Nat) : Int) = (65536 : Int) ^ b := by simp
  omega
theorem nat_Add {n x y : Nat} (hx : x < LIM) (hy : y < LIM) (hn : 10000 < n) : m_nat_Add n (limbs x) (limbs y) = some (if x + y < LIM then (limbs (x + y), 0) else ([], 3)) := by
  have lx := lim_len.2 hx
  have ly := lim_len.2 hy
  unfold m_nat_Add
  rw [valid_limbs hx hn, Option.bind_some]
  simp only [Bool.not_true, Bool.not_false, if_true]
  rw [valid_limbs hy hn, Option.bind_some]
  simp only [Bool.not_true, Bool.or_self, Bool.false_eq_true, if_false]
  generalize ha' : limbs x = a at *
  generalize hb' : limbs y = b at *
  have ha : digs a := ha' ▸ digs_limbs x
  have hb : digs b := hb' ▸ digs_limbs y
  have vx : val a = x := by rw [← ha', val_limbs]
  have vy : val b = y := by rw [← hb', val_limbs]
  obtain ⟨t, h1, h2, h3, h4⟩ := iter_inv (σ := List Int × Int × Int) (f := fun s => m_nat_Add_L1 n a b s.1 s.2.1 s.2.2)
    (I := fun k s => ∃ i : Nat, s.2.2 = i ∧ i + k = max a.length b.length + 1 ∧ (s.2.1 = 0 ∨ s.2.1 = 1) ∧ s.1.length = i ∧ digs s.1 ∧ val s.1 + s.2.1 * 65536 ^ i = val (a.take i) + val (b.take i))
    (Q := fun t => t.length ≤ 400 ∧ digs t ∧ val t = val a + val b) (by
      rintro k ⟨o, c, j⟩ ⟨i, h1, h2, h3, h4, h5, h6⟩
      dsimp only at h1 h2 h3 h4 h5 h6
      subst h1
      simp only [m_nat_Add_L1]
      have e0 : max (a.length : Int) (b.length : Int) + 1 = ((max a.length b.length + 1 : Nat) : Int) := by omega
      rw [w64 (x := max (a.length : Int) (b.length : Int) + 1) (by omega) (by omega), e0]
      by_cases hk : k = 0
      · right
        have ei : i = max a.length b.length + 1 := by omega
        refine ⟨o, by rw [decide_eq_false (by omega)]; rfl, by omega, h5, ?_⟩
        have b1 := val_bounds ha
        have b2 := val_bounds hb
        have b3 := val_bounds h5
        rw [take_all (by omega), take_all (by omega)] at h6
        have p1 : (65536 : Int) ^ a.length ≤ 65536 ^ (max a.length b.length) := pow_mono (by omega)
        have p2 : (65536 : Int) ^ b.length ≤ 65536 ^ (max a.length b.length) := pow_mono (by omega)
        have p3 : (65536 : Int) ^ i = 65536 ^ (max a.length b.length) * 65536 := by rw [ei, Int.pow_succ]
        rcases h3 with h3 | h3
        · rw [h3] at h6; omega
        · rw [h3] at h6; omega
      · left
        have b1 := digs_getD ha i
        have b2 := digs_getD hb i
        have e1 : (i : Int) < ((max a.length b.length + 1 : Nat) : Int) := by omega
        have s1 := val_take_succ a i
        have s2 := val_take_succ b i
        simp only [e1, decide_true, if_true, nat_digit, Option.bind_some]
        rw [w64 (x := a.getD i 0 + b.getD i 0) (by omega) (by omega), w64 (x := c + (a.getD i 0 + b.getD i 0)) (by omega) (by omega)]
        generalize hT : c + (a.getD i 0 + b.getD i 0) = T at *
        have hTb : 0 ≤ T ∧ T ≤ 131071 := by omega
        simp (disch := omega) only [remN, quoN, Option.bind_some, w64]
        rw [app_some (by decide) (by simp; omega), Option.bind_some]
        refine ⟨_, k - 1, rfl, by omega, i + 1, rfl, by omega, by dsimp only; omega, by simp [h4], digs_append.2 ⟨h5, digs_one (by omega)⟩, ?_⟩
        dsimp only
        have s3 : T = 65536 * (T / 65536) + T % 65536 := by omega
        rw [val_snoc, h4, Int.pow_succ, s1, s2]
        generalize T / 65536 = Q at *
        generalize T % 65536 = R at *
        clear e1 hTb b1 b2 s1 s2 ha hb h5 h3
        grind) (max a.length b.length + 1) n ([], 0, 0) ⟨0, rfl, by omega, .inl rfl, rfl, digs_nil, by simp [val]⟩ (by omega)
  have hv : va t = x + y := by rw [va, h4]; omega
  rw [h1, Option.bind_some, nat_limited h3 (by omega) hn, Option.bind_some, hv, trim, show (val t).toNat = x + y from hv]
theorem nat_Sub {n x y : Nat} (hx : x < LIM) (hy : y < LIM) (hn : 10000 < n) : m_nat_Sub n (limbs x) (limbs y) = some (if x < y then ([], 2) else (limbs (x - y), 0)) := by
  have lx := lim_len.2 hx
  have ly := lim_len.2 hy
  unfold m_nat_Sub
  rw [valid_limbs hx hn, Option.bind_some]
  simp only [Bool.not_true, Bool.not_false, if_true]
  rw [valid_limbs hy hn, Option.bind_some]
  simp only [Bool.not_true, Bool.or_self, Bool.false_eq_true, if_false]
  rw [nat_compare (by omega) (by omega) hn, Option.bind_some]
  by_cases h : x < y
  · simp [sgn_lt.2 h, h]
  · have : ¬ sgn x y < 0 := fun hc => h (sgn_lt.1 hc)
    simp only [this, h, decide_false, Bool.false_eq_true, if_false]
    rw [nat_minus (digs_limbs x) (digs_limbs y) (by omega) (by rw [val_limbs, val_limbs]; omega) hn, va_limbs, va_limbs]; rfl
theorem ref_Add {n x y : Nat} (hx : x < LIM) (hy : y < LIM) (hn : 10000 < n) : m_ref03_Add n (limbs x) (limbs y) = some (if x + y < LIM then (limbs (x + y), 0) else ([], 3)) := by
  have lx := lim_len.2 hx
  have ly := lim_len.2 hy
  have h3 := len_add lx ly
  simp [m_ref03_Add, ref_valid_limbs hx hn, ref_valid_limbs hy hn, ref_sum (n := n) (digs_limbs x) (digs_limbs y) (by omega) (by omega) hn, va_limbs, ref_limited (n := n) (digs_limbs (x + y)) (by omega) hn, trim_limbs]
theorem ref_Sub {n x y : Nat} (hx : x < LIM) (hy : y < LIM) (hn : 10000 < n) : m_ref03_Sub n (limbs x) (limbs y) = some (if x < y then ([], 2) else (limbs (x - y), 0)) := by
  have lx := lim_len.2 hx
  have ly := lim_len.2 hy
  unfold m_ref03_Sub
  rw [ref_valid_limbs hx hn, Option.bind_some]
  simp only [Bool.not_true, Bool.not_false, if_true]
  rw [ref_valid_limbs hy hn, Option.bind_some]
  simp only [Bool.not_true, Bool.or_self, Bool.false_eq_true, if_false]
  rw [ref_compare (by omega) (by omega) hn, Option.bind_some]
  by_cases h : x < y
  · simp [sgn_lt.2 h, h]
  · have : ¬ sgn x y < 0 := fun hc => h (sgn_lt.1 hc)
    simp only [this, h, decide_false, Bool.false_eq_true, if_false]
    rw [ref_less (digs_limbs x) (digs_limbs y) (by omega) (by rw [val_limbs, val_limbs]; omega) hn, va_limbs, va_limbs]; rfl

/-- Both functions yield the same, a short list and a number. -/
def Both (p q : Option (List Int × Int)) : Prop := ∃ r, p = some r ∧ q = some r ∧ r.1.length ≤ 128
theorem both_if {c : Prop} [Decidable c] {x : Nat} {e : Int} (h : c → x < LIM) : (if c then (limbs x, (0 : Int)) else ([], e)).1.length ≤ 128 := by
  split
  · rename_i hc; exact lim_len.2 (h hc)
  · simp
theorem both_bin {f g : Nat → List Int → List Int → Option (List Int × Int)} {a b : List Int} (la : a.length ≤ ML) (lb : b.length ≤ ML)
    (hf : ∀ n a b, f n a b = (m_nat_Valid n a).bind fun v3 => ((if (!(!v3)) = true then m_nat_Valid n b else some default)).bind fun v4 => if ((!v3) || (!v4)) = true then some ([], (1 : Int)) else f n a b)
    (hg : ∀ n a b, g n a b = (m_ref03_Valid n a).bind fun v3 => ((if (!(!v3)) = true then m_ref03_Valid n b else some default)).bind fun v4 => if ((!v3) || (!v4)) = true then some ([], (1 : Int)) else g n a b)
    (h : ∀ x y, x < LIM → y < LIM → Both (f FU (limbs x) (limbs y)) (g FU (limbs x) (limbs y))) : Both (f FU a b) (g FU a b) := by
  cases ha : vld a with
  | false =>
    refine ⟨([], 1), ?_, ?_, by simp⟩
    · rw [hf, nat_Valid la (fuM la), ha]; rfl
    · rw [hg, ref_Valid la (fuM la), ha]; rfl
  | true =>
    cases hb : vld b with
    | false =>
      refine ⟨([], 1), ?_, ?_, by simp⟩
      · rw [hf, nat_Valid la (fuM la), ha, Option.bind_some, nat_Valid lb (fuM lb), hb]; rfl
      · rw [hg, ref_Valid la (fuM la), ha, Option.bind_some, ref_Valid lb (fuM lb), hb]; rfl
    | true =>
      obtain ⟨x, hx, rfl⟩ := vld_inv ha
      obtain ⟨y, hy, rfl⟩ := vld_inv hb
      exact h x y hx hy
theorem guard2 {α : Type} {o p : Option Bool} {a r : Option α} (k : Option α) (h : k = o.bind fun v3 => ((if (!(!v3)) = true then p else some default)).bind fun v4 => if ((!v3) || (!v4)) = true then a else r) :
    k = o.bind fun v3 => ((if (!(!v3)) = true then p else some default)).bind fun v4 => if ((!v3) || (!v4)) = true then a else k := by
  subst h
  cases o with
  | none => rfl
  | some v =>
    cases v with
    | false => rfl
    | true =>
      cases p with
      | none => rfl
      | some u => cases u <;> rfl
theorem both_Add {a b : List Int} (la : a.length ≤ ML) (lb : b.length ≤ ML) : Both (m_nat_Add FU a b) (m_ref03_Add FU a b) :=
  both_bin la lb (fun _ _ _ => guard2 _ rfl) (fun _ _ _ => guard2 _ rfl) (fun x y hx hy => ⟨_, nat_Add hx hy fu4, ref_Add hx hy fu4, both_if id⟩)
theorem both_Mul {a b : List Int} (la : a.length ≤ ML) (lb : b.length ≤ ML) : Both (m_nat_Mul FU a b) (m_ref03_Mul FU a b) :=
  both_bin la lb (fun _ _ _ => guard2 _ rfl) (fun _ _ _ => guard2 _ rfl) (fun x y hx hy => ⟨_, nat_Mul hx hy fu4, ref_Mul hx hy fu4, both_if id⟩)
theorem both_Sub {a b : List Int} (la : a.length ≤ ML) (lb : b.length ≤ ML) : Both (m_nat_Sub FU a b) (m_ref03_Sub FU a b) :=
  both_bin la lb (fun _ _ _ => guard2 _ rfl) (fun _ _ _ => guard2 _ rfl) (fun x y hx hy => ⟨_, nat_Sub hx hy fu4, ref_Sub hx hy fu4, by
    split
    · simp
    · exact lim_len.2 (Nat.lt_of_le_of_lt (Nat.sub_le _ _) hx)⟩)
theorem gcd_lim {x y : Nat} (hx : x < LIM) (hy : y < LIM) : Nat.gcd x y < LIM := by
  by_cases h : x = 0
  · subst h; rw [Nat.gcd_zero_left]; exact hy
  · exact Nat.lt_of_le_of_lt (Nat.gcd_le_left _ (by omega)) hx
theorem both_Gcd {a b : List Int} (la : a.length ≤ ML) (lb : b.length ≤ ML) : Both (m_nat_Gcd FU a b) (m_ref03_Gcd FU a b) :=
  both_bin la lb (fun _ _ _ => guard2 _ rfl) (fun _ _ _ => guard2 _ rfl) (fun x y hx hy => ⟨_, nat_Gcd hx hy fu5, ref_Gcd hx hy fu4, lim_len.2 (gcd_lim hx hy)⟩)
theorem both_Divide {a b : List Int} (la : a.length ≤ ML) (lb : b.length ≤ ML) : ∃ q r e, m_nat_Divide FU a b = some (q, r, e) ∧ m_ref03_Divide FU a b = some (q, r, e) ∧ q.length ≤ 128 ∧ r.length ≤ 128 := by
  cases ha : vld a with
  | false => exact ⟨[], [], 1, by simp [m_nat_Divide, nat_Valid la (fuM la), ha], by simp [m_ref03_Divide, ref_Valid la (fuM la), ha], by simp, by simp⟩
  | true =>
    cases hb : vld b with
    | false => exact ⟨[], [], 1, by simp [m_nat_Divide, nat_Valid la (fuM la), nat_Valid lb (fuM lb), ha, hb], by simp [m_ref03_Divide, ref_Valid la (fuM la), ref_Valid lb (fuM lb), ha, hb], by simp, by simp⟩
    | true =>
      obtain ⟨x, hx, rfl⟩ := vld_inv ha
      obtain ⟨y, hy, rfl⟩ := vld_inv hb
      by_cases h0 : y = 0
      · subst h0
        have z1 := valid_limbs hy fu4
        have z2 := ref_valid_limbs hy fu4
        rw [limbs_zero] at z1 z2
        refine ⟨[], [], 1, ?_, ?_, by simp, by simp⟩
        · simp [m_nat_Divide, valid_limbs hx fu4, z1, limbs_zero]
        · simp [m_ref03_Divide, ref_valid_limbs hx fu4, z2, limbs_zero]
      · refine ⟨_, _, _, nat_Divide hx hy (by omega) fu5, ref_Divide hx hy (by omega) fu4, lim_len.2 (Nat.lt_of_le_of_lt (Nat.div_le_self _ _) hx), lim_len.2 (Nat.lt_of_le_of_lt (Nat.mod_le _ _) hx)⟩
theorem both_Power {a : List Int} {m : Int} (la : a.length ≤ ML) : Both (m_nat_Power FU a m) (m_ref03_Power FU a m) := by
  cases ha : vld a with
  | false => exact ⟨([], 1), by simp [m_nat_Power, nat_Valid la (fuM la), ha], by simp [m_ref03_Power, ref_Valid la (fuM la), ha], by simp⟩
  | true =>
    by_cases hm : m < 0 ∨ 1000 < m
    · refine ⟨([], 2), ?_, ?_, by simp⟩
      · simp only [m_nat_Power, nat_Valid la (fuM la), ha, Option.bind_some, Bool.not_true, Bool.false_eq_true, if_false]
        rw [if_pos (by simpa using hm)]
      · simp only [m_ref03_Power, ref_Valid la (fuM la), ha, Option.bind_some, Bool.not_true, Bool.false_eq_true, if_false]
        rw [if_pos (by simpa using hm)]
    · obtain ⟨x, hx, rfl⟩ := vld_inv ha
      obtain ⟨k, rfl⟩ := Int.eq_ofNat_of_zero_le (show 0 ≤ m by omega)
      exact ⟨_, nat_Power hx (by omega) fu4, ref_Power hx (by omega) fu4, both_if id⟩
theorem both_Shift {a : List Int} {m : Int} (la : a.length ≤ ML) : Both (m_nat_Shift FU a m) (m_ref03_Shift FU a m) := by
  cases ha : vld a with
  | false => exact ⟨([], 1), by simp [m_nat_Shift, nat_Valid la (fuM la), ha], by simp [m_ref03_Shift, ref_Valid la (fuM la), ha], by simp⟩
  | true =>
    by_cases hm : m < 0 ∨ 2047 < m
    · refine ⟨([], 2), ?_, ?_, by simp⟩
      · simp only [m_nat_Shift, nat_Valid la (fuM la), ha, Option.bind_some, Bool.not_true, Bool.false_eq_true, if_false]
        rw [if_pos (by simpa using hm)]
      · simp only [m_ref03_Shift, ref_Valid la (fuM la), ha, Option.bind_some, Bool.not_true, Bool.false_eq_true, if_false]
        rw [if_pos (by simpa using hm)]
    · obtain ⟨x, hx, rfl⟩ := vld_inv ha
      obtain ⟨k, rfl⟩ := Int.eq_ofNat_of_zero_le (show 0 ≤ m by omega)
      exact ⟨_, nat_Shift hx (by omega) fu4, ref_Shift hx (by omega) fu4, both_if id⟩
theorem same_self {a : List Int} (h : a.length ≤ 128) : m_ref03_Same FU a a = some true := by
  rw [ref_Same (by simp only [ML]; omega) (by simp only [FU]; omega)]; simp
end Go.Proofs.YtagdgndoabomiaaDoor.Ab
