/- The decimal notation of numbers: what is read, and the law NatTexts. Conditions: none. -/
import Derived.Test.YtagdgndoabomiaaDoorQe
namespace Go.Proofs.YtagdgndoabomiaaDoor.Ab
open Go

theorem snocRec {P : List UInt8 → Prop} (h0 : P []) (h1 : ∀ s c, P s → P (s ++ [c])) (s : List UInt8) : P s := by
  have : ∀ l : List UInt8, P l.reverse := by
    intro l
    induction l with
    | nil => exact h0
    | cons c l ih => rw [List.reverse_cons]; exact h1 _ _ ih
  have := this s.reverse
  rwa [List.reverse_reverse] at this
def isD (c : UInt8) : Bool := decide (48 ≤ c.toNat) && decide (c.toNat ≤ 57)
/-- The number of digits. -/
def pv (s : List UInt8) : Nat := s.foldl (fun a c => 10 * a + (c.toNat - 48)) 0
theorem pv_snoc (s : List UInt8) (c : UInt8) : pv (s ++ [c]) = 10 * pv s + (c.toNat - 48) := by simp [pv]
theorem pvA_le : ∀ (b : List UInt8) (a : Nat), a ≤ b.foldl (fun a c => 10 * a + (c.toNat - 48)) a
  | [], a => Nat.le_refl _
  | c :: b, a => by
    rw [List.foldl_cons]
    exact Nat.le_trans (by omega) (pvA_le b _)
theorem pv_take_le (s : List UInt8) (j : Nat) : pv (s.take j) ≤ pv s := by
  have : pv s = (s.drop j).foldl (fun a c => 10 * a + (c.toNat - 48)) (pv (s.take j)) := by
    unfold pv
    rw [← List.foldl_append, List.take_append_drop]
  rw [this]
  exact pvA_le _ _
theorem take_snoc {s : List UInt8} {j : Nat} (h : j < s.length) : s.take (j + 1) = s.take j ++ [s.getD j 0] := by
  rw [List.take_succ_eq_append_getElem h]
  simp [h]
theorem pv_lt : ∀ (s : List UInt8), (∀ c ∈ s, isD c = true) → pv s < 10 ^ s.length := by
  intro s
  induction s using snocRec with
  | h0 => intro _; simp [pv]
  | h1 s c ih =>
    intro h
    have h1 := ih (fun c hc => h c (by simp [hc]))
    have h2 := h c (by simp)
    simp only [isD, Bool.and_eq_true, decide_eq_true_eq] at h2
    rw [pv_snoc, List.length_append, List.length_singleton, Nat.pow_succ]
    omega
theorem ch_back {c : UInt8} (h : isD c = true) : ch (c.toNat - 48) = c := by
  simp only [isD, Bool.and_eq_true, decide_eq_true_eq] at h
  unfold ch
  rw [show 48 + (c.toNat - 48) = c.toNat by omega]
  exact UInt8.ofNat_toNat
theorem ch_d {d : Nat} (h : d < 10) : isD (ch d) = true ∧ (ch d).toNat - 48 = d := by
  have e : (ch d).toNat = 48 + d := by
    unfold ch
    rw [UInt8.toNat_ofNat']
    omega
  rw [isD, e]
  simp; omega
theorem decE_pv (s : List UInt8) : (∀ c ∈ s, isD c = true) → (s = [] ∨ s.getD 0 0 ≠ 48) → decE (pv s) = s := by
  induction s using snocRec with
  | h0 => intro _ _; simp [pv, decE]
  | h1 s c ih =>
    intro h hz
    have h1 := ih (fun c hc => h c (by simp [hc]))
    have h2 := h c (by simp)
    have h3 := h2
    simp only [isD, Bool.and_eq_true, decide_eq_true_eq] at h2
    rw [pv_snoc, decE_step (by omega), ch_back h3]
    by_cases hs : s = []
    · subst hs
      have : c ≠ 48 := by simpa using hz
      have : c.toNat ≠ 48 := fun e => this (by apply UInt8.toNat_inj.1; rw [e]; rfl)
      rw [if_neg (by omega)]
      simp [pv, decE]
    · have hh : decE (pv s) = s := h1 (.inr (by
        rcases hz with hz | hz
        · simp at hz
        · cases s with
          | nil => exact absurd rfl hs
          | cons x s => simpa using hz))
      have : pv s ≠ 0 := fun e => hs (by rw [← hh, e]; simp [decE])
      rw [if_neg (by omega), hh]
theorem decE_all : ∀ (k x : Nat), x ≤ k → (∀ c ∈ decE x, isD c = true) ∧ pv (decE x) = x ∧ (x ≠ 0 → decE x ≠ [] ∧ (decE x).getD 0 0 ≠ 48)
  | 0, x, h => by
    obtain rfl : x = 0 := by omega
    simp [decE, pv]
  | k + 1, x, h => by
    by_cases hx : x = 0
    · subst hx; simp [decE, pv]
    · obtain ⟨h1, h2, h3⟩ := decE_all k (x / 10) (by omega)
      rw [decE_div hx]
      have hd := ch_d (d := x % 10) (by omega)
      refine ⟨fun c hc => ?_, ?_, fun _ => ⟨by simp, ?_⟩⟩
      · rcases List.mem_append.1 hc with hc | hc
        · exact h1 c hc
        · rw [List.mem_singleton.1 hc]; exact hd.1
      · rw [pv_snoc, h2, hd.2]; omega
      · by_cases h10 : x / 10 = 0
        · rw [h10]
          have e : decE 0 = [] := by simp [decE]
          rw [e]
          intro he
          have he : ch (x % 10) = 48 := by simpa using he
          have := hd.2
          rw [he] at this
          have h48 : (48 : UInt8).toNat = 48 := rfl
          omega
        · obtain ⟨g1, g2⟩ := h3 h10
          cases hh : decE (x / 10) with
          | nil => exact absurd hh g1
          | cons a l => rw [hh] at g2; simpa using g2
/-- A notation as it is read. -/
def good (s : List UInt8) : Bool := !decide (s = []) && decide (s.length ≤ 700) && (!decide (s.getD 0 0 = 48) || decide (s = [48])) && s.all isD
theorem good_dec {x : Nat} (hx : x < LIM) : good (Lib.decDigits x) = true ∧ pv (Lib.decDigits x) = x := by
  by_cases h : x = 0
  · subst h
    rw [Lib.decDigits_one (by decide)]
    decide
  · have e : Lib.decDigits x = decE x := by simp [decE, h]
    obtain ⟨h1, h2, h3⟩ := decE_all x x (Nat.le_refl _)
    obtain ⟨h4, h5⟩ := h3 h
    obtain ⟨K, hK, lim_dec⟩ := lim_dec'
    have hlen : (decE x).length ≤ 640 := hK ▸ decE_len K (Nat.lt_of_lt_of_le hx lim_dec)
    rw [e]
    refine ⟨?_, h2⟩
    simp only [good, Bool.and_eq_true, Bool.or_eq_true, Bool.not_eq_true', decide_eq_false_iff_not, decide_eq_true_eq, List.all_eq_true]
    exact ⟨⟨⟨h4, by omega⟩, .inl h5⟩, h1⟩
theorem dec_good {s : List UInt8} (h : good s = true) : Lib.decDigits (pv s) = s := by
  simp only [good, Bool.and_eq_true, Bool.or_eq_true, Bool.not_eq_true', decide_eq_false_iff_not, decide_eq_true_eq, List.all_eq_true] at h
  obtain ⟨⟨⟨h1, h2⟩, h3⟩, h4⟩ := h
  rcases h3 with h3 | h3
  · have := decE_pv s h4 (.inr h3)
    unfold decE at this
    split at this
    · exact absurd this.symm h1
    · exact this
  · subst h3; rw [show pv [48] = 0 from rfl, Lib.decDigits_one (by decide)]; rfl
theorem len_dec {y k : Nat} (h : y < 10 ^ k) (hk : k ≤ 700) : (limbs y).length ≤ 350 := by
  have key : ∀ m, 10 ^ (2 * m) ≤ 65536 ^ m := fun m => by
    rw [Nat.pow_mul]; exact Nat.pow_le_pow_left (by decide) m
  obtain ⟨m, hm⟩ : ∃ m, m = 350 := ⟨_, rfl⟩
  have := limbs_len.2 (Nat.lt_of_lt_of_le h (Nat.le_trans (Nat.pow_le_pow_right (by decide) (show k ≤ 2 * m by omega)) (key m)))
  omega
/-- A digit is added. -/
theorem carry_loop {Y d : Nat} (hd : d < 10) (hl : (limbs Y).length ≤ 400) : iter FU (fun s => m_nat_Parse_L3 FU s.1 s.2.1 s.2.2) ((d : Int), (0 : Int), limbs Y) = some (limbs (Y + d)) := by
  obtain ⟨t, h1, h2⟩ := iter_inv (σ := Int × Int × List Int) (τ := List Int) (f := fun s => m_nat_Parse_L3 FU s.1 s.2.1 s.2.2)
    (I := fun k s => ∃ i : Nat, s.2.1 = i ∧ i ≤ s.2.2.length ∧ 0 ≤ s.1 ∧ s.1 < 65536 ∧ digs s.2.2 ∧ s.2.2.length ≤ 401 ∧ (s.1 ≠ 0 → s.2.2.length ≤ 400 ∧ k = s.2.2.length - i + 1) ∧
      val s.2.2 + s.1 * 65536 ^ i = ((Y + d : Nat) : Int) ∧ (s.2.2.length = 0 ∨ s.2.2.getD (s.2.2.length - 1) 0 ≠ 0 ∨ (0 < s.1 ∧ i = s.2.2.length)))
    (Q := fun t => t = limbs (Y + d)) (by
      rintro k ⟨c, z, o⟩ ⟨i, g1, g2, g3, g4, g5, g6, g7, g8, g9⟩
      dsimp only at g1 g2 g3 g4 g5 g6 g7 g8 g9
      subst g1
      simp only [m_nat_Parse_L3]
      by_cases hc : c = 0
      · right
        subst hc
        refine ⟨o, by rw [decide_eq_false (by omega)]; rfl, ?_⟩
        have := limbs_val g5 (by rcases g9 with h | h | h; exact .inl h; exact .inr h; omega)
        rw [← this]
        congr 1
        omega
      · left
        obtain ⟨g7, rfl⟩ := g7 hc
        rw [decide_eq_true (show 0 < c by omega), if_pos rfl]
        by_cases hi : i = o.length
        · subst hi
          rw [decide_eq_true (by omega), if_pos rfl, app_some (by decide) (by simp; omega), Option.bind_some, Option.bind_some]
          have hlen : (o ++ [(0 : Int)]).length = o.length + 1 := by simp
          have hg : (o ++ [(0 : Int)]).getD o.length 0 = 0 := by simp
          simp (disch := omega) only [ixI, Option.bind_some, Int.toNat_natCast, hg, Int.add_zero, w64, remN, quoN, setI_some]
          have e0 : c / 65536 = 0 := by omega
          have e1 : c % 65536 = c := by omega
          have hset : (o ++ [(0 : Int)]).set o.length c = o ++ [c] := by simp
          rw [e0, e1, hset]
          refine ⟨_, 0, rfl, by omega, o.length + 1, by dsimp only; omega, by simp, by dsimp only; omega, by dsimp only; omega, digs_append.2 ⟨g5, digs_one ⟨by omega, by omega⟩⟩, by simp; omega, fun h => absurd rfl h, ?_, ?_⟩
          · dsimp only
            rw [val_append, val, val]
            simp only [Int.zero_mul, Int.add_zero, Int.mul_zero]
            rw [Int.mul_comm, ← g8]
          · right; left
            dsimp only
            simp [hc]
        · rw [decide_eq_false (by omega)]
          simp only [Bool.false_eq_true, if_false, Option.bind_some]
          have b1 := digs_getD g5 i
          simp (disch := omega) only [ixI, Option.bind_some, Int.toNat_natCast, w64, remN, quoN, setI_some]
          generalize hx : o.getD i 0 = x at *
          have hT : c + x = 65536 * ((c + x) / 65536) + (c + x) % 65536 := by omega
          refine ⟨_, (if (c + x) / 65536 = 0 then 0 else o.length - (i + 1) + 1), rfl, ?_, i + 1, by dsimp only; omega, by simp; omega, by dsimp only; omega, by dsimp only; omega, digs_set g5 (by omega) (by omega), by simp; omega, ?_, ?_, ?_⟩
          · split <;> omega
          · intro h
            dsimp only at h ⊢
            rw [if_neg h]
            simp; omega
          · dsimp only
            rw [val_set _ _ _ (by omega), hx, Int.pow_succ, ← g8]
            generalize (c + x) / 65536 = q at *
            generalize (c + x) % 65536 = r at *
            have : r = c + x - 65536 * q := by omega
            subst this
            grind
          · right
            dsimp only
            rw [List.length_set]
            by_cases hil : i = o.length - 1
            · by_cases hr : (c + x) % 65536 = 0
              · right
                exact ⟨by omega, by omega⟩
              · left
                rw [getD_set _ _ _ _ _ (by omega), if_pos (by omega)]
                exact hr
            · left
              rw [getD_set _ _ _ _ _ (by omega), if_neg (by omega)]
              rcases g9 with h | h | h
              · omega
              · exact h
              · omega) ((limbs Y).length + 1) FU ((d : Int), 0, limbs Y) ⟨0, rfl, by simp, by dsimp only; omega, by dsimp only; omega, digs_limbs _, by dsimp only; omega, fun _ => ⟨hl, by simp⟩, by dsimp only; rw [val_limbs]; simp, by
        dsimp only
        by_cases hY : Y = 0
        · left; subst hY; rw [limbs_zero]; rfl
        · right; left; exact limbs_last hY⟩ (by simp only [FU]; omega)
  rw [h1, h2]
theorem isD_iff {c : UInt8} : isD c = true ↔ 48 ≤ (c.toNat : Int) ∧ (c.toNat : Int) ≤ 57 := by simp [isD]; omega
theorem all_iff {s : List UInt8} : s.all isD = true ↔ ∀ j, j < s.length → isD (s.getD j 0) = true := by
  rw [List.all_eq_true]
  constructor
  · intro h j hj
    refine h _ ?_
    simp [hj]
  · intro h c hc
    obtain ⟨j, hj, rfl⟩ := List.getElem_of_mem hc
    have := h j hj
    simpa [hj] using this
theorem byte_ix {s : List UInt8} {j : Nat} (h : j < s.length) : ix (byteL s) (j : Int) = some ((s.getD j 0).toNat : Int) := by
  unfold byteL
  simp [ix, h]
theorem nat_check {s : List UInt8} (hl : s.length ≤ ML) : ∃ t, iter FU (fun z => m_nat_Parse_L1 FU s z) (0 : Int) = some t ∧ Sum.elim (fun u => u = (([] : List Int), (7 : Int)) ∧ s.all isD = false) (fun _ => s.all isD = true) t := by
  refine iter_inv (σ := Int) (I := fun k z => ∃ j : Nat, z = j ∧ j + k = s.length ∧ ∀ i, i < j → isD (s.getD i 0) = true)
    (Q := fun t => Sum.elim (fun u => u = (([] : List Int), (7 : Int)) ∧ s.all isD = false) (fun _ => s.all isD = true) t) (by
      rintro k z ⟨j, rfl, h2, h3⟩
      simp only [m_nat_Parse_L1]
      have hbl : (byteL s).length = s.length := by simp [byteL]
      rw [hbl]
      by_cases hk : k = 0
      · right
        exact ⟨.inr (), by rw [decide_eq_false (by omega)]; rfl, all_iff.2 fun i hi => h3 i (by omega)⟩
      · rw [decide_eq_true (by omega), if_pos rfl, byte_ix (by omega), Option.bind_some]
        by_cases hd : isD (s.getD j 0) = true
        · left
          have := isD_iff.1 hd
          rw [decide_eq_false (by omega), decide_eq_false (by omega)]
          refine ⟨((j + 1 : Nat) : Int), k - 1, by simp only [Bool.or_self, Bool.false_eq_true, if_false]; rw [wadd1 (show j < s.length by omega) hl], by omega, j + 1, rfl, by omega, fun i hi => ?_⟩
          by_cases e : i = j
          · subst e; exact hd
          · exact h3 i (by omega)
        · right
          have hn := mt isD_iff.2 hd
          refine ⟨.inl ([], 7), ?_, rfl, ?_⟩
          · rw [if_pos]
            simp only [Bool.or_eq_true, decide_eq_true_eq]
            omega
          · cases ha : s.all isD with
            | false => rfl
            | true => exact absurd (all_iff.1 ha j (by omega)) hd) s.length FU 0 ⟨0, rfl, by omega, fun i hi => by omega⟩ (by simp only [FU]; simp only [ML] at hl; omega)
theorem ref_check {s : List UInt8} (hl : s.length ≤ ML) : ∃ t, iter FU (fun z => m_ref03_Parse_L1 FU s z) (0 : Int) = some t ∧ Sum.elim (fun u => u = (([] : List Int), (7 : Int)) ∧ s.all isD = false) (fun _ => s.all isD = true) t := by
  refine iter_inv (σ := Int) (I := fun k z => ∃ j : Nat, z = j ∧ j + k = s.length ∧ ∀ i, i < j → isD (s.getD i 0) = true)
    (Q := fun t => Sum.elim (fun u => u = (([] : List Int), (7 : Int)) ∧ s.all isD = false) (fun _ => s.all isD = true) t) (by
      rintro k z ⟨j, rfl, h2, h3⟩
      simp only [m_ref03_Parse_L1]
      by_cases hk : k = 0
      · right
        exact ⟨.inr (), by rw [decide_eq_false (by omega)]; rfl, all_iff.2 fun i hi => h3 i (by omega)⟩
      · rw [decide_eq_true (by omega), if_pos rfl, ixS_get (by omega), Option.bind_some]
        by_cases hd : isD (s.getD j 0) = true
        · left
          have := isD_iff.1 hd
          rw [decide_eq_false (show ¬ ((s.getD j 0).toNat : Int) < 48 by omega)]
          simp only [Bool.not_false, if_true, Option.bind_some, Bool.false_or]
          rw [decide_eq_false (show ¬ (57 : Int) < ((s.getD j 0).toNat : Int) by omega)]
          refine ⟨((j + 1 : Nat) : Int), k - 1, by simp only [Bool.false_eq_true, if_false]; rw [wadd1 (show j < s.length by omega) hl], by omega, j + 1, rfl, by omega, fun i hi => ?_⟩
          by_cases e : i = j
          · subst e; exact hd
          · exact h3 i (by omega)
        · right
          have hn := mt isD_iff.2 hd
          refine ⟨.inl ([], 7), ?_, rfl, ?_⟩
          · by_cases h48 : ((s.getD j 0).toNat : Int) < 48
            · rw [decide_eq_true h48]; rfl
            · rw [decide_eq_false h48]
              simp only [Bool.not_false, if_true, Option.bind_some, Bool.false_or]
              rw [decide_eq_true (show (57 : Int) < ((s.getD j 0).toNat : Int) by omega)]; rfl
          · cases ha : s.all isD with
            | false => rfl
            | true => exact absurd (all_iff.1 ha j (by omega)) hd) s.length FU 0 ⟨0, rfl, by omega, fun i hi => by omega⟩ (by simp only [FU]; simp only [ML] at hl; omega)
def parsed (s : List UInt8) : List Int × Int := if good s = true then (if pv s < LIM then (limbs (pv s), 0) else ([], 3)) else ([], 7)
theorem ten_limbs : ([(10 : Int)] : List Int) = limbs 10 := (small_limbs (m := 10) (by decide) (by decide)).symm
theorem digit_in {s : List UInt8} {j : Nat} (ha : s.all isD = true) (hj : j < s.length) : ∃ d : Nat, d < 10 ∧ IntKind.i64.wrap (IntKind.u8.wrap (((s.getD j 0).toNat : Int) - 48)) = (d : Int) ∧ pv (s.take (j + 1)) = 10 * pv (s.take j) + d := by
  have := isD_iff.1 (all_iff.1 ha j hj)
  refine ⟨(s.getD j 0).toNat - 48, by omega, ?_, by rw [take_snoc hj, pv_snoc]⟩
  rw [wrap_u8 (by omega) (by omega), w64 (by omega) (by omega)]; omega
theorem nat_fold {s : List UInt8} (hl : s.length ≤ 700) (ha : s.all isD = true) :
    ∃ t, iter FU (fun z => m_nat_Parse_L2 FU s z.1 z.2) ((0 : Int), ([] : List Int)) = some t ∧ Sum.elim (fun u => u = (([] : List Int), (3 : Int)) ∧ ¬ pv s < LIM) (fun u => u = limbs (pv s) ∧ pv s < LIM) t := by
  refine iter_inv (σ := Int × List Int) (I := fun k z => ∃ j : Nat, z = ((j : Int), limbs (pv (s.take j))) ∧ j + k = s.length ∧ pv (s.take j) < LIM)
    (Q := fun t => Sum.elim (fun u => u = (([] : List Int), (3 : Int)) ∧ ¬ pv s < LIM) (fun u => u = limbs (pv s) ∧ pv s < LIM) t) (by
      rintro k z ⟨j, rfl, h2, h3⟩
      simp only [m_nat_Parse_L2]
      have hbl : (byteL s).length = s.length := by simp [byteL]
      rw [hbl]
      by_cases hk : k = 0
      · right
        have : s.take j = s := List.take_of_length_le (by omega)
        rw [this] at h3 ⊢
        exact ⟨.inr (limbs (pv s)), by rw [decide_eq_false (by omega)]; rfl, rfl, h3⟩
      · obtain ⟨d, d1, d2, d3⟩ := digit_in ha (show j < s.length by omega)
        have hlen := lim_len.2 h3
        have h10 : (limbs (10 * pv (s.take j))).length ≤ 129 := by
          have := len_mul (x := 10) (y := pv (s.take j)) (k := 1) (l := 128) (len_one (by decide)) hlen
          omega
        rw [decide_eq_true (by omega), if_pos rfl, byte_ix (by omega), Option.bind_some, ten_limbs, nat_times (digs_limbs _) (digs_limbs _) (by omega) (by rw [← ten_limbs]; simp) fu4, va_limbs, va_limbs, Option.bind_some, d2, Nat.mul_comm, carry_loop d1 (by omega), Option.bind_some, ← d3]
        by_cases hx : pv (s.take (j + 1)) < LIM
        · left
          have := lim_len.2 hx
          rw [decide_eq_false (by omega)]
          refine ⟨_, k - 1, by simp only [Bool.false_eq_true, if_false]; rw [wadd1 (show j < s.length by omega) (by simp only [ML]; omega)], by omega, j + 1, rfl, by omega, hx⟩
        · right
          have := lim_len'.2 hx
          rw [decide_eq_true (by omega)]
          exact ⟨.inl ([], 3), rfl, rfl, fun h => hx (Nat.lt_of_le_of_lt (pv_take_le s (j + 1)) h)⟩) s.length FU (0, []) ⟨0, by simp [pv, limbs_zero], by omega, by simp [pv, LIM]⟩ (by simp only [FU]; omega)
theorem ref_fold {s : List UInt8} (hl : s.length ≤ 700) (ha : s.all isD = true) : iter FU (fun z => m_ref03_Parse_L2 FU s z.1 z.2) (([] : List Int), (0 : Int)) = some (limbs (pv s)) := by
  obtain ⟨t, h1, h2⟩ := iter_inv (σ := List Int × Int) (τ := List Int) (f := fun z => m_ref03_Parse_L2 FU s z.1 z.2) (I := fun k z => ∃ j : Nat, z = (limbs (pv (s.take j)), (j : Int)) ∧ j + k = s.length)
    (Q := fun t => t = limbs (pv s)) (by
      rintro k z ⟨j, rfl, h2⟩
      simp only [m_ref03_Parse_L2]
      by_cases hk : k = 0
      · right
        have : s.take j = s := List.take_of_length_le (by omega)
        rw [this]
        exact ⟨_, by rw [decide_eq_false (by omega)]; rfl, rfl⟩
      · left
        obtain ⟨d, d1, d2, d3⟩ := digit_in ha (show j < s.length by omega)
        have hp : ∀ i, (limbs (pv (s.take i))).length ≤ 350 := fun i => len_dec (pv_lt _ (fun c hc => List.all_eq_true.1 ha c (List.mem_of_mem_take hc))) (by simp; omega)
        have hlen := hp j
        have h10 : (limbs (10 * pv (s.take j))).length ≤ 351 := by
          have := len_mul (x := 10) (y := pv (s.take j)) (k := 1) (l := 350) (len_one (by decide)) hlen
          omega
        rw [decide_eq_true (by omega), if_pos rfl, ten_limbs, ref_times (digs_limbs _) (digs_limbs _) (by omega) (by rw [← ten_limbs]; simp) fu4, va_limbs, va_limbs, Option.bind_some, ixS_get (by omega), Option.bind_some, d2,
          ref_trim (digs_one ⟨by omega, by omega⟩) (by simp) fu4, Option.bind_some, trim, Nat.mul_comm,
          ref_sum (digs_limbs _) (digs_limbs _) (by omega) (by
            have : (limbs (val [(d : Int)]).toNat).length ≤ 1 := len_one (by simp [val]; omega)
            omega) fu4, Option.bind_some, va_limbs, va_limbs]
        refine ⟨_, k - 1, by rw [wadd1 (show j < s.length by omega) (by simp only [ML]; omega)], by omega, j + 1, ?_, by omega⟩
        rw [d3]
        simp [val]) s.length FU ([], 0) ⟨0, by simp [pv, limbs_zero], by omega⟩ (by simp only [FU]; omega)
  rw [h1, h2]
theorem nat_Parse {s : List UInt8} (hl : s.length ≤ ML) : m_nat_Parse FU s = some (parsed s) := by
  unfold m_nat_Parse parsed
  by_cases h0 : s = []
  · subst h0; rfl
  · by_cases h7 : s.length ≤ 700
    · have hp : 0 < s.length := by cases s; exact absurd rfl h0; simp
      rw [decide_eq_false h0, decide_eq_false (show ¬ (700 : Int) < (s.length : Int) by omega)]
      simp only [Bool.or_self, Bool.not_false, if_true, Bool.false_or]
      rw [show (0 : Int) = ((0 : Nat) : Int) from rfl, ixS_get hp, Option.bind_some]
      have e48 : (((s.getD 0 0).toNat : Int) = 48) ↔ s.getD 0 0 = 48 := by
        constructor
        · intro h; apply UInt8.toNat_inj.1; rw [show (48 : UInt8).toNat = 48 from rfl]; omega
        · intro h; rw [h]; rfl
      by_cases hz : s.getD 0 0 = 48 ∧ s ≠ [48]
      · rw [decide_eq_true (e48.2 hz.1), decide_eq_false hz.2]
        simp only [Bool.not_false, Bool.and_self, if_true]
        rw [if_neg]
        simp [good, h0, h7, hz.1, hz.2, -List.getD_eq_getElem?_getD]
      · rw [if_neg (by
          simp only [Bool.and_eq_true, decide_eq_true_eq, Bool.not_eq_true', decide_eq_false_iff_not, e48]
          exact hz)]
        obtain ⟨t, t1, t2⟩ := nat_check hl
        rw [show ((0 : Nat) : Int) = (0 : Int) from rfl, t1, Option.bind_some]
        cases t with
        | inl u =>
          obtain ⟨rfl, ha⟩ := t2
          rw [if_neg (by simp [good, ha])]
        | inr u =>
          have ha : s.all isD = true := t2
          obtain ⟨r, r1, r2⟩ := nat_fold h7 ha
          dsimp only
          rw [r1, Option.bind_some]
          have hg : good s = true := by
            simp only [good, Bool.and_eq_true, Bool.or_eq_true, Bool.not_eq_true', decide_eq_false_iff_not, decide_eq_true_eq]
            refine ⟨⟨⟨h0, h7⟩, ?_⟩, ha⟩
            by_cases hh : s.getD 0 0 = 48
            · right
              by_cases h8 : s = [48]
              · exact h8
              · exact absurd ⟨hh, h8⟩ hz
            · exact .inl hh
          rw [if_pos hg]
          cases r with
          | inl u =>
            obtain ⟨rfl, h⟩ := r2
            rw [if_neg h]
          | inr u =>
            obtain ⟨rfl, h⟩ := r2
            rw [if_pos h]
    · rw [decide_eq_false h0, decide_eq_true (show (700 : Int) < (s.length : Int) by omega)]
      simp only [Bool.or_true, Bool.not_true, Bool.false_eq_true, if_false, Option.bind_some, Bool.true_or, if_true]
      rw [if_neg (by simp [good, h7])]
theorem ref_Parse {s : List UInt8} (hl : s.length ≤ ML) : m_ref03_Parse FU s = some (parsed s) := by
  unfold m_ref03_Parse parsed
  by_cases h0 : s = []
  · subst h0; rfl
  · have hp : 0 < s.length := by cases s; exact absurd rfl h0; simp
    rw [decide_eq_false (show ¬ (s.length : Int) < 1 by omega)]
    by_cases h7 : s.length ≤ 700
    · rw [decide_eq_false (show ¬ (700 : Int) < (s.length : Int) by omega)]
      simp only [Bool.or_self, Bool.not_false, Bool.true_and, Bool.false_or]
      have e48 : (((s.getD 0 0).toNat : Int) = 48) ↔ s.getD 0 0 = 48 := by
        constructor
        · intro h; apply UInt8.toNat_inj.1; rw [show (48 : UInt8).toNat = 48 from rfl]; omega
        · intro h; rw [h]; rfl
      have one : s.length = 1 → s.getD 0 0 = 48 → s = [48] := fun h1 h2 => by
        match s, h1, h2 with
        | [c], _, h2 => simpa using h2
      have hbad : ∀ b, (if decide ((1 : Int) < (s.length : Int)) = true then ixS s (0 : Int) else some default) = some b → ((decide ((1 : Int) < (s.length : Int)) && decide (b = (48 : Int))) = true ↔ (s.getD 0 0 = 48 ∧ s ≠ [48])) := by
        intro b hb
        by_cases h1 : 1 < s.length
        · rw [if_pos (by simp; omega), show (0 : Int) = ((0 : Nat) : Int) from rfl, ixS_get hp] at hb
          have := Option.some.inj hb
          subst this
          rw [decide_eq_true (show (1 : Int) < (s.length : Int) by omega), Bool.true_and, decide_eq_true_eq, e48]
          exact ⟨fun h => ⟨h, fun e => by rw [e] at h1; simp at h1⟩, fun h => h.1⟩
        · rw [decide_eq_false (show ¬ (1 : Int) < (s.length : Int) by omega)]
          simp only [Bool.false_and, Bool.false_eq_true, false_iff]
          exact fun h => h.2 (one (by omega) h.1)
      obtain ⟨b, hb⟩ : ∃ b, (if decide ((1 : Int) < (s.length : Int)) = true then ixS s (0 : Int) else some default) = some b := by
        split
        · exact ⟨_, by rw [show (0 : Int) = ((0 : Nat) : Int) from rfl, ixS_get hp]⟩
        · exact ⟨_, rfl⟩
      rw [hb, Option.bind_some]
      by_cases hz : s.getD 0 0 = 48 ∧ s ≠ [48]
      · rw [if_pos ((hbad b hb).2 hz), if_neg]
        simp [good, h0, h7, hz.1, hz.2, -List.getD_eq_getElem?_getD]
      · rw [if_neg (mt (hbad b hb).1 hz)]
        obtain ⟨t, t1, t2⟩ := ref_check hl
        rw [t1, Option.bind_some]
        cases t with
        | inl u =>
          obtain ⟨rfl, ha⟩ := t2
          rw [if_neg (by simp [good, ha])]
        | inr u =>
          have ha : s.all isD = true := t2
          dsimp only
          rw [ref_fold h7 ha, Option.bind_some]
          have hl2 : (limbs (pv s)).length ≤ 350 := len_dec (pv_lt _ (fun c hc => List.all_eq_true.1 ha c hc)) h7
          have hg : good s = true := by
            simp only [good, Bool.and_eq_true, Bool.or_eq_true, Bool.not_eq_true', decide_eq_false_iff_not, decide_eq_true_eq]
            refine ⟨⟨⟨h0, h7⟩, ?_⟩, ha⟩
            by_cases hh : s.getD 0 0 = 48
            · right
              by_cases h8 : s = [48]
              · exact h8
              · exact absurd ⟨hh, h8⟩ hz
            · exact .inl hh
          rw [ref_limited (digs_limbs _) (by omega) fu4, Option.bind_some, va_limbs, trim_limbs, if_pos hg]
    · rw [decide_eq_true (show (700 : Int) < (s.length : Int) by omega)]
      simp only [Bool.or_true, Bool.not_true, Bool.false_and, Bool.false_eq_true, if_false, Option.bind_some, Bool.true_or, if_true]
      rw [if_neg (by simp [good, h7])]
theorem parsed_len (s : List UInt8) : (parsed s).1.length ≤ 128 := by
  unfold parsed
  split
  · split
    · rename_i h; exact lim_len.2 h
    · simp
  · simp
theorem plain_NatTexts {a : List Int} {s : List UInt8} (la : a.length ≤ ML) (ls : s.length ≤ ML) : m_law03_NatTexts FU a s = some true := by
  unfold m_law03_NatTexts m_ref03_Few
  rw [awake03, Option.bind_some]
  simp only [Bool.not_true, Bool.not_false, if_true, Option.bind_some, Bool.false_or]
  split
  · rfl
  · have hlast : ∀ (y : List UInt8 × Int), m_nat_Show FU (parsed s).1 = some y → (decide ((parsed s).2 = 0) = true → y = (s, 0)) := fun y hy h => by
      have h := of_decide_eq_true h
      unfold parsed at h hy
      split at h
      · rename_i hg
        split at h
        · rename_i hlt
          rw [if_pos hg, if_pos hlt, nat_Show hlt, dec_good hg] at hy
          exact (Option.some.inj hy).symm
        · exact absurd h (by decide)
      · exact absurd h (by decide)
    have hs2 : ∃ y, m_nat_Show FU (parsed s).1 = some y := by
      unfold parsed
      split
      · split
        · rename_i hlt; exact ⟨_, nat_Show hlt⟩
        · exact ⟨_, by rw [← limbs_zero]; exact nat_Show (by unfold LIM; exact Nat.pow_pos (by decide))⟩
      · exact ⟨_, by rw [← limbs_zero]; exact nat_Show (by unfold LIM; exact Nat.pow_pos (by decide))⟩
    obtain ⟨y, hy⟩ := hs2
    have hy2 := hlast y hy
    rw [nat_Parse ls, ref_Parse ls]
    cases hv : vld a with
    | true =>
      obtain ⟨x, hx, rfl⟩ := vld_inv hv
      obtain ⟨g1, g2⟩ := good_dec hx
      have hl : (Lib.decDigits x).length ≤ 700 := by
        simp only [good, Bool.and_eq_true, decide_eq_true_eq] at g1
        exact g1.1.1.2
      have hpd : parsed (Lib.decDigits x) = (limbs x, 0) := by
        unfold parsed; rw [if_pos g1, g2, if_pos hx]
      rw [nat_Show hx, ref_Show hx]
      simp only [Option.bind_some, decide_true, Bool.not_true, Bool.or_self, Bool.not_false, if_true, same_self (parsed_len s), Bool.false_eq_true, if_false, hy, nat_Parse (show (Lib.decDigits x).length ≤ ML by simp only [ML]; omega), hpd, Bool.and_self, Bool.and_true, Bool.true_and]
      rw [same_self (lim_len.2 hx)]
      by_cases h : (parsed s).2 = 0
      · rw [hy2 (decide_eq_true h)]; simp [h]
      · simp [h]
    | false =>
      have e1 : m_nat_Show FU a = some ([], 1) := by
        unfold m_nat_Show
        rw [nat_Valid la (Nat.lt_of_le_of_lt la (by decide)), hv]; rfl
      have e2 : m_ref03_Show FU a = some ([], 1) := by
        unfold m_ref03_Show
        rw [ref_Valid la (Nat.lt_of_le_of_lt la (by decide)), hv]; rfl
      rw [e1, e2]
      simp only [Option.bind_some, decide_true, Bool.not_true, Bool.or_self, Bool.not_false, if_true, same_self (parsed_len s), Bool.false_eq_true, if_false, hy, nat_Parse (show ([] : List UInt8).length ≤ ML by decide)]
      by_cases h : (parsed s).2 = 0
      · rw [hy2 (decide_eq_true h)]; simp [h]
      · simp [h]
end Go.Proofs.YtagdgndoabomiaaDoor.Ab
