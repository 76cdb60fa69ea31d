/- Comparing records, in plain Lean. Conditions: none. -/
import Derived.Test.YtgcmhhcopeiomaaVc
namespace Go.Proofs.Ytgcmhhcopeiomaa.Ab
open Go

theorem containsI {n : Nat} {l : List Int} {a : Int} (hl : l.length ≤ ML) (hn : l.length < n) : m_slices_Contains_int_int n l a = some (l.any fun y => decide (a = y)) :=
  contains_loop n l (fun y => some (decide (a = y))) (fun y => decide (a = y)) (fun _ _ => rfl) hl hn
theorem containsS {n : Nat} {l : List (List UInt8)} {a : List UInt8} (hl : l.length ≤ ML) (hn : l.length < n) : m_slices_Contains_string_string n l a = some (l.any fun y => decide (a = y)) :=
  contains_loop n l (fun y => some (decide (a = y))) (fun y => decide (a = y)) (fun _ _ => rfl) hl hn
def com {α : Type} [DecidableEq α] (a b : List α) : Bool := a.any fun x => b.any fun y => decide (x = y)
theorem com_iff {α : Type} [DecidableEq α] {a b : List α} : com a b = true ↔ ∃ x, x ∈ a ∧ x ∈ b := by
  unfold com
  simp only [List.any_eq_true, decide_eq_true_eq]
  exact ⟨fun ⟨x, hx, y, hy, e⟩ => ⟨x, hx, e ▸ hy⟩, fun ⟨x, hx, hy⟩ => ⟨x, hx, x, hy, rfl⟩⟩
theorem com_comm {α : Type} [DecidableEq α] (a b : List α) : com a b = com b a := by
  rw [Bool.eq_iff_iff, com_iff, com_iff]
  exact ⟨fun ⟨x, h, k⟩ => ⟨x, k, h⟩, fun ⟨x, h, k⟩ => ⟨x, k, h⟩⟩
theorem com_self {α : Type} [DecidableEq α] {a : List α} (h : 0 < a.length) : com a a = true :=
  com_iff.2 ⟨_, List.getElem_mem h, List.getElem_mem h⟩
theorem commonI {n : Nat} {a b : List Int} (ha : a.length ≤ ML) (hb : b.length ≤ ML) (na : a.length < n) (nb : b.length < n) : m_match_common_int n a b = some (com a b) := by
  unfold m_match_common_int
  have e : m_slices_ContainsFunc_int_int n a (fun y1 => m_match_common_int_1 n y1 b) = some (com a b) :=
    contains_loop n a (fun y1 => m_match_common_int_1 n y1 b) (fun x => b.any fun y => decide (x = y)) (fun x _ => by unfold m_match_common_int_1; rw [containsI hb nb]; rfl) ha na
  rw [e]; rfl
theorem commonS {n : Nat} {a b : List (List UInt8)} (ha : a.length ≤ ML) (hb : b.length ≤ ML) (na : a.length < n) (nb : b.length < n) : m_match_common_string n a b = some (com a b) := by
  unfold m_match_common_string
  have e : m_slices_ContainsFunc_string_string n a (fun y1 => m_match_common_string_1 n y1 b) = some (com a b) :=
    contains_loop n a (fun y1 => m_match_common_string_1 n y1 b) (fun x => b.any fun y => decide (x = y)) (fun x _ => by unfold m_match_common_string_1; rw [containsS hb nb]; rfl) ha na
  rw [e]; rfl
def nbr (a b : List Int) : Bool := a.any fun x => b.any (fun y => decide (IntKind.i64.wrap (x - 1) = y)) || b.any (fun y => decide (IntKind.i64.wrap (x + 1) = y))
theorem neighbours_ok {n : Nat} {a b : List Int} (ha : a.length ≤ ML) (hb : b.length ≤ ML) (na : a.length < n) (nb : b.length < n) : m_match_neighbours n a b = some (nbr a b) := by
  unfold m_match_neighbours
  have e : m_slices_ContainsFunc_int_int n a (fun y1 => m_match_neighbours_1 n y1 b) = some (nbr a b) :=
    contains_loop n a (fun y1 => m_match_neighbours_1 n y1 b) (fun x => b.any (fun y => decide (IntKind.i64.wrap (x - 1) = y)) || b.any (fun y => decide (IntKind.i64.wrap (x + 1) = y))) (fun x _ => by
      unfold m_match_neighbours_1
      rw [containsI hb nb, containsI hb nb]
      cases b.any (fun y => decide (IntKind.i64.wrap (x - 1) = y)) <;> simp) ha na
  rw [e]; rfl
theorem nbr_iff {a b : List Int} (h : ∀ x ∈ a, 1000 ≤ x ∧ x ≤ 2999) : nbr a b = true ↔ ∃ x ∈ a, ∃ y ∈ b, x = y + 1 ∨ y = x + 1 := by
  unfold nbr
  simp only [List.any_eq_true, Bool.or_eq_true, decide_eq_true_eq]
  constructor
  · rintro ⟨x, hx, ⟨y, hy, e⟩ | ⟨y, hy, e⟩⟩
    · have := h x hx
      rw [w64 (by omega) (by omega)] at e
      exact ⟨x, hx, y, hy, .inl (by omega)⟩
    · have := h x hx
      rw [w64 (by omega) (by omega)] at e
      exact ⟨x, hx, y, hy, .inr (by omega)⟩
  · rintro ⟨x, hx, y, hy, e | e⟩
    · have := h x hx
      exact ⟨x, hx, .inl ⟨y, hy, by rw [w64 (by omega) (by omega)]; omega⟩⟩
    · have := h x hx
      exact ⟨x, hx, .inr ⟨y, hy, by rw [w64 (by omega) (by omega)]; omega⟩⟩
theorem nbr_comm {a b : List Int} (ha : ∀ x ∈ a, 1000 ≤ x ∧ x ≤ 2999) (hb : ∀ x ∈ b, 1000 ≤ x ∧ x ≤ 2999) : nbr a b = nbr b a := by
  rw [Bool.eq_iff_iff, nbr_iff ha, nbr_iff hb]
  exact ⟨fun ⟨x, hx, y, hy, e⟩ => ⟨y, hy, x, hx, e.symm⟩, fun ⟨x, hx, y, hy, e⟩ => ⟨y, hy, x, hx, e.symm⟩⟩
theorem getD_ext {α : Type} {a b : List α} (d : α) (hl : a.length = b.length) (h : ∀ i, i < a.length → a.getD i d = b.getD i d) : a = b := by
  apply List.ext_getElem hl
  intro i h1 h2
  have := h i h1
  simpa [h1, h2] using this
theorem equalS {n : Nat} {a b : List (List UInt8)} (ha : a.length ≤ ML) (na : a.length < n) : m_slices_Equal_string_string n a b = some (decide (a = b)) := by
  unfold m_slices_Equal_string_string
  by_cases hl : a.length = b.length
  · rw [if_neg (by simp; omega), iter_any (ρ := Bool ⊕ Unit) a.length n (fun i => !decide (a.getD i [] = b.getD i [])) (.inl false) (.inr ()) (fun j hj => by
      unfold m_slices_Equal_string_string_L1
      rw [if_pos (by simp; omega), ix_get [] hj, Option.bind_some, ix_get [] (by omega), Option.bind_some, wadd1 hj ha]
      split <;> rfl) (by unfold m_slices_Equal_string_string_L1; simp) na]
    cases hb : anyN a.length (fun i => !decide (a.getD i [] = b.getD i [])) with
    | true =>
      obtain ⟨i, _, h2⟩ := anyN_t.1 hb
      have : ¬ a = b := by rintro rfl; simp at h2
      simp [this]
    | false =>
      have h := anyN_f.1 hb
      have : a = b := getD_ext [] hl (fun i hi => by have := h i hi; simpa using this)
      simp [this]
  · have : ¬ a = b := by rintro rfl; exact hl rfl
    rw [if_pos (by simp; omega)]; simp [this]
def ver (a b : Bool) : Int := if a = true then 1 else if b = true then 2 else 3
theorem verdict_ok {n : Nat} {a b : Bool} : m_match_verdict n a b = some (ver a b) := by cases a <;> cases b <;> rfl
theorem ver_one {b : Bool} : ver true b = 1 := rfl
theorem ver_range (a b : Bool) : 1 ≤ ver a b ∧ ver a b ≤ 3 := by cases a <;> cases b <;> decide

/-! ### valid records are small -/
structure FV (f : SFeatures) : Prop where
  t : f.fTitle.length ≤ 200
  tw : ∀ w ∈ f.fTitle, w.length ≤ 400
  a : f.fAuthor.length ≤ 420
  y : f.fYears.length ≤ 20
  yr : ∀ x ∈ f.fYears, 1000 ≤ x ∧ x ≤ 2999
  i : f.fIsbns.length ≤ 20
  l : f.fLangs.length ≤ 20
  p : f.fPublisher.length ≤ 200
  e : f.fEdition.length ≤ 200
theorem fv_small {f : SFeatures} (h : fv f = true) : FV f := by
  simp only [fv, Bool.and_eq_true, decide_eq_true_eq, aut] at h
  obtain ⟨⟨⟨⟨⟨⟨⟨⟨⟨⟨_, _⟩, h1⟩, h2⟩, h3⟩, h4⟩, h5⟩, h6⟩, h7⟩, h8⟩, h9⟩ := h
  refine ⟨h1, fun w hw => ?_, h3.1.1, h4, fun x hx => ?_, h6.1.1, h7.1.1, h8.1.1, h9.1.1⟩
  · have := List.all_eq_true.1 h2 w hw
    simp only [wrd, Bool.and_eq_true, decide_eq_true_eq] at this
    exact this.1.2
  · unfold yrs at h5
    rw [Bool.not_eq_true'] at h5
    obtain ⟨i, hi, rfl⟩ := List.getElem_of_mem hx
    have := anyN_f.1 h5 i hi
    simp only [Bool.or_eq_false_iff, Bool.not_eq_false', Bool.and_eq_true, decide_eq_true_eq] at this
    have e : f.fYears.getD i 0 = f.fYears[i] := by simp [hi]
    rw [e] at this
    exact this.1
theorem lens_le {m : Nat} : ∀ {l : List (List UInt8)}, (∀ w ∈ l, w.length ≤ m) → Lib.lens l ≤ l.length * m
  | [], _ => by simp [Lib.lens]
  | x :: l, h => by
    have h1 := h x (List.mem_cons_self ..)
    have h2 := lens_le (m := m) (l := l) (fun w hw => h w (List.mem_cons_of_mem _ hw))
    have h3 : Lib.lens (x :: l) = x.length + Lib.lens l := by simp [Lib.lens]
    rw [h3, List.length_cons, Nat.succ_mul]; omega
def jn (l : List (List UInt8)) : List UInt8 := Lib.join l [32]
theorem jn_len {l : List (List UInt8)} (h : l.length ≤ 200) (hw : ∀ w ∈ l, w.length ≤ 400) : (jn l).length ≤ 100000 := by
  unfold jn
  cases l with
  | nil => simp [Lib.join_nil]
  | cons x r =>
    rw [Lib.join_length]
    have h1 := lens_le hw
    have h2 := Nat.mul_le_mul_right 400 h
    simp only [List.length_cons, List.length_nil] at *
    omega
theorem joinM_ok {l : List (List UInt8)} (h : l.length ≤ 200) (hw : ∀ w ∈ l, w.length ≤ 400) : joinM l [32] = some (jn l) := by
  unfold joinM
  have := jn_len h hw
  unfold jn at *
  rw [if_pos ⟨by omega, by omega⟩]

/-! ### the outcome -/
noncomputable def cT (a b : List (List UInt8)) : Int := if 0 < a.length ∧ 0 < b.length then ver (decide (a = b)) (cw a b || nr (jn a) (jn b)) else 0
noncomputable def cA (a b : List UInt8) : Int := if a ≠ [] ∧ b ≠ [] then ver (decide (a = b)) (nr a b) else 0
def cY (a b : List Int) : Int := if 0 < a.length ∧ 0 < b.length then ver (com a b) (nbr a b) else 0
def cS (a b : List (List UInt8)) : Int := if 0 < a.length ∧ 0 < b.length then ver (com a b) false else 0
def cP (a b : List (List UInt8)) : Int := if 0 < a.length ∧ 0 < b.length then ver (decide (a = b)) (com a b) else 0
def cE (a b : List (List UInt8)) : Int := if 0 < a.length ∧ 0 < b.length then ver (decide (a = b)) false else 0
noncomputable def cmp (f g : SFeatures) : A7 := ⟨cT f.fTitle g.fTitle, cA f.fAuthor g.fAuthor, cY f.fYears g.fYears, cS f.fIsbns g.fIsbns, cS f.fLangs g.fLangs, cP f.fPublisher g.fPublisher, cE f.fEdition g.fEdition⟩
theorem dec_two {a b : Nat} : (decide ((0 : Int) < (a : Int)) && decide ((0 : Int) < (b : Int))) = decide (0 < a ∧ 0 < b) := by
  rw [Bool.eq_iff_iff]; simp only [Bool.and_eq_true, decide_eq_true_eq]; omega
theorem compare_ok {f g : SFeatures} (hf : FOk f) (hg : FOk g) : m_match_Compare FU f g = some (if (fv f && fv g) = true then (cmp f g, 0) else (⟨0, 0, 0, 0, 0, 0, 0⟩, 1)) := by
  have lt : ∀ {k : Nat}, k ≤ ML → k < FU := fun hk => Nat.lt_of_le_of_lt hk (by decide)
  have vf := feature_ok (n := FU) hf (by decide)
  have vg := feature_ok (n := FU) hg (by decide)
  unfold m_match_Compare
  rw [show m_feature_Valid FU (⟨f.fID, f.fTitle, f.fAuthor, f.fYears, f.fIsbns, f.fLangs, f.fPublisher, f.fEdition⟩ : SFeatures) = some (fv f) from vf, show m_feature_Valid FU (⟨g.fID, g.fTitle, g.fAuthor, g.fYears, g.fIsbns, g.fLangs, g.fPublisher, g.fEdition⟩ : SFeatures) = some (fv g) from vg]
  simp only [Option.bind_some]
  cases hvf : fv f with
  | false => simp
  | true =>
    cases hvg : fv g with
    | false => simp
    | true =>
      have F := fv_small hvf
      have G := fv_small hvg
      simp only [Bool.not_true, Bool.not_false, if_true, Option.bind_some, Bool.or_self, Bool.false_eq_true, if_false, Bool.and_self]
      have M3 : ∀ {k : Nat}, k ≤ 1000 → k ≤ ML := fun h => Nat.le_trans h (by decide)
      rw [equalS hf.t.1 (lt hf.t.1), closeWords_cw (by have := F.t; omega) (by have := G.t; omega), joinM_ok F.t F.tw, joinM_ok G.t G.tw, commonI hf.y hg.y (lt hf.y) (lt hg.y), neighbours_ok hf.y hg.y (lt hf.y) (lt hg.y), commonS hf.i.1 hg.i.1 (lt hf.i.1) (lt hg.i.1), commonS hf.l.1 hg.l.1 (lt hf.l.1) (lt hg.l.1), commonS hf.p.1 hg.p.1 (lt hf.p.1) (lt hg.p.1), equalS hf.p.1 (lt hf.p.1), equalS hf.e.1 (lt hf.e.1), near_ok (by have := F.a; omega) (by have := G.a; omega)]
      simp only [Option.bind_some, verdict_ok, dec_two]
      have jf := jn_len F.t F.tw
      have jg := jn_len G.t G.tw
      have hT : (if decide (0 < f.fTitle.length ∧ 0 < g.fTitle.length) = true then
          ((if (!cw f.fTitle g.fTitle) = true then some (jn f.fTitle) else some default : Option (List UInt8))).bind fun v7 => ((if (!cw f.fTitle g.fTitle) = true then some (jn g.fTitle) else some default : Option (List UInt8))).bind fun v8 =>
          ((if (!cw f.fTitle g.fTitle) = true then m_match_near FU v7 v8 else some default)).bind fun v9 => some (⟨ver (decide (f.fTitle = g.fTitle)) (cw f.fTitle g.fTitle || v9), 0, 0, 0, 0, 0, 0⟩ : A7)
          else some (⟨0, 0, 0, 0, 0, 0, 0⟩ : A7) : Option A7) = some ⟨cT f.fTitle g.fTitle, 0, 0, 0, 0, 0, 0⟩ := by
        unfold cT
        by_cases h : 0 < f.fTitle.length ∧ 0 < g.fTitle.length
        · rw [if_pos (decide_eq_true h), if_pos h]
          cases hc : cw f.fTitle g.fTitle with
          | true => rfl
          | false =>
            simp only [Bool.not_false, if_true, Option.bind_some, near_ok (show (jn f.fTitle).length ≤ 1000000000 by omega) (show (jn g.fTitle).length ≤ 1000000000 by omega)]
        · rw [if_neg (by simpa using h), if_neg h]
      rw [hT]
      simp only [Option.bind_some]
      have hA : ∀ x0 : Int, (if (!decide (f.fAuthor = []) && !decide (g.fAuthor = [])) = true then some (⟨x0, ver (decide (f.fAuthor = g.fAuthor)) (nr f.fAuthor g.fAuthor), 0, 0, 0, 0, 0⟩ : A7) else some ⟨x0, 0, 0, 0, 0, 0, 0⟩ : Option A7) = some ⟨x0, cA f.fAuthor g.fAuthor, 0, 0, 0, 0, 0⟩ := by
        intro x0
        unfold cA
        by_cases h : f.fAuthor = []
        · simp [h]
        · by_cases h2 : g.fAuthor = []
          · simp [h2]
          · simp [h, h2]
      rw [hA]
      simp only [Option.bind_some]
      have five : ∀ (c : Prop) [Decidable c] (x : Int) (F : Int → A7), (if decide c = true then some (F x) else some (F 0) : Option A7) = some (F (if c then x else 0)) := by
        intro c _ x F
        by_cases h : c <;> simp [h]
      have hY : ∀ x0 x1 : Int, (if decide (0 < f.fYears.length ∧ 0 < g.fYears.length) = true then some (⟨x0, x1, ver (com f.fYears g.fYears) (nbr f.fYears g.fYears), 0, 0, 0, 0⟩ : A7) else some ⟨x0, x1, 0, 0, 0, 0, 0⟩ : Option A7) = some ⟨x0, x1, cY f.fYears g.fYears, 0, 0, 0, 0⟩ := by
        intro x0 x1
        have q := five (0 < f.fYears.length ∧ 0 < g.fYears.length) (ver (com f.fYears g.fYears) (nbr f.fYears g.fYears)) (fun v => (⟨x0, x1, v, 0, 0, 0, 0⟩ : A7))
        exact q
      rw [hY]
      simp only [Option.bind_some]
      have hI : ∀ x0 x1 x2 : Int, (if decide (0 < f.fIsbns.length ∧ 0 < g.fIsbns.length) = true then some (⟨x0, x1, x2, ver (com f.fIsbns g.fIsbns) false, 0, 0, 0⟩ : A7) else some ⟨x0, x1, x2, 0, 0, 0, 0⟩ : Option A7) = some ⟨x0, x1, x2, cS f.fIsbns g.fIsbns, 0, 0, 0⟩ := by
        intro x0 x1 x2
        have q := five (0 < f.fIsbns.length ∧ 0 < g.fIsbns.length) (ver (com f.fIsbns g.fIsbns) false) (fun v => (⟨x0, x1, x2, v, 0, 0, 0⟩ : A7))
        exact q
      rw [hI]
      simp only [Option.bind_some]
      have hL : ∀ x0 x1 x2 x3 : Int, (if decide (0 < f.fLangs.length ∧ 0 < g.fLangs.length) = true then some (⟨x0, x1, x2, x3, ver (com f.fLangs g.fLangs) false, 0, 0⟩ : A7) else some ⟨x0, x1, x2, x3, 0, 0, 0⟩ : Option A7) = some ⟨x0, x1, x2, x3, cS f.fLangs g.fLangs, 0, 0⟩ := by
        intro x0 x1 x2 x3
        have q := five (0 < f.fLangs.length ∧ 0 < g.fLangs.length) (ver (com f.fLangs g.fLangs) false) (fun v => (⟨x0, x1, x2, x3, v, 0, 0⟩ : A7))
        exact q
      rw [hL]
      simp only [Option.bind_some]
      have hP : ∀ x0 x1 x2 x3 x4 : Int, (if decide (0 < f.fPublisher.length ∧ 0 < g.fPublisher.length) = true then some (⟨x0, x1, x2, x3, x4, ver (decide (f.fPublisher = g.fPublisher)) (com f.fPublisher g.fPublisher), 0⟩ : A7) else some ⟨x0, x1, x2, x3, x4, 0, 0⟩ : Option A7) = some ⟨x0, x1, x2, x3, x4, cP f.fPublisher g.fPublisher, 0⟩ := by
        intro x0 x1 x2 x3 x4
        have q := five (0 < f.fPublisher.length ∧ 0 < g.fPublisher.length) (ver (decide (f.fPublisher = g.fPublisher)) (com f.fPublisher g.fPublisher)) (fun v => (⟨x0, x1, x2, x3, x4, v, 0⟩ : A7))
        exact q
      rw [hP]
      simp only [Option.bind_some]
      have hE : ∀ x0 x1 x2 x3 x4 x5 : Int, (if decide (0 < f.fEdition.length ∧ 0 < g.fEdition.length) = true then some (⟨x0, x1, x2, x3, x4, x5, ver (decide (f.fEdition = g.fEdition)) false⟩ : A7) else some ⟨x0, x1, x2, x3, x4, x5, 0⟩ : Option A7) = some ⟨x0, x1, x2, x3, x4, x5, cE f.fEdition g.fEdition⟩ := by
        intro x0 x1 x2 x3 x4 x5
        have q := five (0 < f.fEdition.length ∧ 0 < g.fEdition.length) (ver (decide (f.fEdition = g.fEdition)) false) (fun v => (⟨x0, x1, x2, x3, x4, x5, v⟩ : A7))
        exact q
      rw [hE]
      simp only [Option.bind_some]
      rfl
/-! ### the example -/
theorem txs_nil : txs [] := ⟨by simp, by simp⟩
theorem compare_faust : m_match_Compare FU ⟨1, [[102, 97, 117, 115, 116]], [103, 111, 101, 116, 104, 101, 47, 47, 47], [], [], [], [], []⟩ ⟨2, [[102, 97, 117, 115, 116]], [103, 111, 101, 116, 104, 101, 47, 47, 47], [], [], [], [], []⟩ = some (⟨1, 1, 0, 0, 0, 0, 0⟩, 0) := by
  have ok : ∀ i : Int, FOk ⟨i, [[102, 97, 117, 115, 116]], [103, 111, 101, 116, 104, 101, 47, 47, 47], [], [], [], [], []⟩ := fun i => ⟨⟨by simp [ML], by simp [ML]⟩, by simp [ML], by simp, txs_nil, txs_nil, txs_nil, txs_nil⟩
  rw [compare_ok (ok 1) (ok 2), if_pos (by decide)]
  simp only [cmp, cT, cA, cY, cS, cP, cE, List.length_cons, List.length_nil, ne_eq, reduceCtorEq, not_false_eq_true, and_self, if_true, decide_true, ver_one, Nat.lt_irrefl, if_false]
  rfl
theorem awake31 : m_law31_awake FU = some true := by
  unfold m_law31_awake
  rw [compare_faust]
  decide +kernel
end Go.Proofs.Ytgcmhhcopeiomaa.Ab
