/- When features are valid, in plain Lean. Conditions: none. -/
import Derived.Test.YtgcmhhcopeiomaaMi
import Derived.Test.YtgcmhhcopeiomaaPl
namespace Go.Proofs.Ytgcmhhcopeiomaa.Ab
open Go

/-- Texts are in one order. -/
theorem bl_tri : ∀ (a b : List UInt8), (Go.Op.bytesLess a b || decide (a = b)) = !Go.Op.bytesLess b a
  | [], [] => rfl
  | [], _ :: _ => rfl
  | _ :: _, [] => rfl
  | x :: a, y :: b => by
    have ih := bl_tri a b
    simp only [Go.Op.bytesLess]
    by_cases h1 : x < y
    · have h2 : ¬ y < x := UInt8.lt_asymm h1
      have h3 : (y == x) = false := by rw [beq_eq_false_iff_ne]; rintro rfl; exact UInt8.lt_irrefl _ h1
      simp [h1, h2, h3]
    · by_cases h2 : y < x
      · have h3 : (x == y) = false := by rw [beq_eq_false_iff_ne]; rintro rfl; exact UInt8.lt_irrefl _ h2
        have h4 : ¬ (x :: a = y :: b) := by intro e; injection e with e; subst e; exact UInt8.lt_irrefl _ h2
        simp [h1, h2, h3, h4]
      · have h3 : x = y := UInt8.le_antisymm (UInt8.not_lt.1 h2) (UInt8.not_lt.1 h1)
        subst h3
        simp only [decide_eq_false h1, Bool.false_or, beq_self_eq_true, Bool.true_and, List.cons.injEq, true_and]
        exact ih
theorem ltS_tri (a b : List UInt8) : (ltS a b || decide (a = b)) = !ltS b a := bl_tri a b

def onl (s : List UInt8) (lo hi : Int) : Bool := s.all fun c => decide (lo ≤ (c.toNat : Int)) && decide ((c.toNat : Int) ≤ hi)
def wrd (s : List UInt8) : Bool := decide (1 ≤ s.length) && decide (s.length ≤ 400) && onl s 33 255
def mde (s : List UInt8) (k : Nat) (lo hi : Int) : Bool := decide (s.length = k) && onl s lo hi
def asc (l : List (List UInt8)) : Bool := !anyN l.length fun i => decide (0 < i) && !ltS (l.getD (i - 1) []) (l.getD i [])
def yrs (l : List Int) : Bool := !anyN l.length fun i => !(decide (1000 ≤ l.getD i 0) && decide (l.getD i 0 ≤ 2999)) || decide (0 < i) && decide (l.getD i 0 ≤ l.getD (i - 1) 0)
def aut (s : List UInt8) : Bool := decide (s.length ≤ 420) && onl s 32 255 && (decide (s = []) || !decide (s.getD 0 0 = 32) && !decide (s.getD (s.length - 1) 0 = 32))
def fv (f : SFeatures) : Bool :=
  decide (1 ≤ f.fID) && decide (f.fID ≤ 1000000000) && decide (f.fTitle.length ≤ 200) && f.fTitle.all wrd && aut f.fAuthor && decide (f.fYears.length ≤ 20) && yrs f.fYears &&
  (decide (f.fIsbns.length ≤ 20) && f.fIsbns.all (mde · 13 48 57) && asc f.fIsbns) && (decide (f.fLangs.length ≤ 20) && f.fLangs.all (mde · 3 97 122) && asc f.fLangs) &&
  (decide (f.fPublisher.length ≤ 200) && f.fPublisher.all wrd && asc f.fPublisher) && (decide (f.fEdition.length ≤ 200) && f.fEdition.all wrd && asc f.fEdition)
/-- Lists that a machine can hold. -/
def txs (l : List (List UInt8)) : Prop := l.length ≤ ML ∧ ∀ x ∈ l, x.length ≤ ML
structure FOk (f : SFeatures) : Prop where
  t : txs f.fTitle
  a : f.fAuthor.length ≤ ML
  y : f.fYears.length ≤ ML
  i : txs f.fIsbns
  l : txs f.fLangs
  p : txs f.fPublisher
  e : txs f.fEdition

theorem only_ok {n : Nat} {s : List UInt8} {lo hi : Int} (hl : s.length ≤ ML) (hn : s.length < n) : m_feature_only n s lo hi = some (onl s lo hi) := by
  have h : m_slices_ContainsFunc_byte_byte n (byteL s) (fun y1 => m_feature_only_1 n y1 lo hi) = some ((byteL s).any fun c => decide (c < lo) || decide (hi < c)) :=
    contains_loop n (byteL s) (fun y1 => m_feature_only_1 n y1 lo hi) (fun c => decide (c < lo) || decide (hi < c)) (fun x _ => rfl) (by simpa [byteL] using hl) (by simpa [byteL] using hn)
  unfold m_feature_only
  rw [h, Option.bind_some]
  congr 1
  unfold onl byteL
  rw [List.any_map, Bool.eq_iff_iff]
  simp only [Bool.not_eq_true', List.any_eq_false, List.all_eq_true, Function.comp_apply, Bool.or_eq_true, decide_eq_true_eq, Bool.and_eq_true, not_or]
  exact ⟨fun h x hx => by have := h x hx; omega, fun h x hx => by have := h x hx; omega⟩
theorem word_ok {n : Nat} {s : List UInt8} (hl : s.length ≤ ML) (hn : s.length < n) : m_feature_word n s = some (wrd s) := by
  unfold m_feature_word wrd
  rw [only_ok hl hn]
  by_cases h : s = []
  · subst h; simp
  · have h1 : 1 ≤ s.length := List.length_pos_iff.2 h
    by_cases h2 : s.length ≤ 400
    · have h3 : (s.length : Int) ≤ 400 := by omega
      simp [h, h1, h2, h3]
    · have h3 : ¬ (s.length : Int) ≤ 400 := by omega
      simp [h, h1, h2, h3]
theorem isbn_ok {n : Nat} {s : List UInt8} (hl : s.length ≤ ML) (hn : s.length < n) : m_feature_isbn n s = some (mde s 13 48 57) := by
  unfold m_feature_isbn mde
  rw [only_ok hl hn]
  by_cases h : s.length = 13
  · simp [h]
  · have h2 : ¬ (s.length : Int) = 13 := by omega
    simp [h, h2]
theorem lang_ok {n : Nat} {s : List UInt8} (hl : s.length ≤ ML) (hn : s.length < n) : m_feature_lang n s = some (mde s 3 97 122) := by
  unfold m_feature_lang mde
  rw [only_ok hl hn]
  by_cases h : s.length = 3
  · simp [h]
  · have h2 : ¬ (s.length : Int) = 3 := by omega
    simp [h, h2]
theorem wsub1 {j : Nat} (h : 0 < j) (hm : j ≤ ML) : IntKind.i64.wrap ((j : Int) - 1) = ((j - 1 : Nat) : Int) := by
  rw [w64 (by omega) (by simp only [ML] at hm; omega)]; omega
theorem years_ok {n : Nat} {l : List Int} (hl : l.length ≤ ML) (hn : l.length < n) : m_feature_years n l = some (yrs l && decide (l.length ≤ 20)) := by
  unfold m_feature_years
  rw [iter_any (ρ := Bool ⊕ Unit) l.length n (fun i => !(decide (1000 ≤ l.getD i 0) && decide (l.getD i 0 ≤ 2999)) || decide (0 < i) && decide (l.getD i 0 ≤ l.getD (i - 1) 0)) (.inl false) (.inr ())
    (fun j hj => by
      unfold m_feature_years_L1
      simp only [show ((j : Int) < (l.length : Int)) from by omega, decide_true, if_true, ix_get 0 hj, Option.bind_some, wadd1 hj hl]
      generalize hx : l.getD j 0 = x
      by_cases h0 : 0 < j
      · have h1 : l.length ≤ ML := hl
        rw [wsub1 h0 (by omega), ix_get 0 (show j - 1 < l.length by omega)]
        generalize l.getD (j - 1) 0 = y
        by_cases q1 : x < 1000
        · simp [q1, show ¬ 1000 ≤ x by omega]
        · by_cases q2 : 2999 < x
          · simp [q1, q2, show ¬ x ≤ 2999 by omega]
          · simp [q1, q2, h0, show 1000 ≤ x by omega, show x ≤ 2999 by omega]
            split <;> rfl
      · have h00 : ¬ (0 : Int) < (j : Int) := by omega
        by_cases q1 : x < 1000
        · simp [q1, h0, h00, show ¬ 1000 ≤ x by omega]
        · by_cases q2 : 2999 < x
          · simp [q1, q2, h0, h00, show ¬ x ≤ 2999 by omega]
          · simp [q1, q2, h0, h00, show 1000 ≤ x by omega, show x ≤ 2999 by omega])
    (by unfold m_feature_years_L1; simp) hn]
  have h20 : decide ((l.length : Int) ≤ 20) = decide (l.length ≤ 20) := by rw [decide_eq_decide]; omega
  unfold yrs
  rw [h20]
  generalize anyN l.length _ = b
  cases b <;> simp
theorem set_ok {n : Nat} {l : List (List UInt8)} {most : Nat} {p : List UInt8 → Option Bool} {q : List UInt8 → Bool} (hp : ∀ x ∈ l, p x = some (q x)) (hl : l.length ≤ ML) (hn : l.length < n) :
    m_feature_set n l (most : Int) p = some (decide (l.length ≤ most) && l.all q && asc l) := by
  have hmost : decide ((l.length : Int) ≤ (most : Int)) = decide (l.length ≤ most) := by rw [decide_eq_decide]; omega
  unfold m_feature_set
  rw [iter_any (ρ := Bool ⊕ Unit) l.length n (fun i => !q (l.getD i []) || decide (0 < i) && !ltS (l.getD (i - 1) []) (l.getD i [])) (.inl false) (.inr ())
    (fun j hj => by
      unfold m_feature_set_L1
      have hm : l.getD j [] ∈ l := by simp [hj]
      simp only [show ((j : Int) < (l.length : Int)) from by omega, decide_true, if_true, ix_get [] hj, Option.bind_some, wadd1 hj hl, hp _ hm]
      generalize hx : l.getD j [] = x
      cases hq : q x
      · simp
      · by_cases h0 : 0 < j
        · rw [wsub1 h0 (by omega), ix_get [] (show j - 1 < l.length by omega)]
          generalize l.getD (j - 1) [] = y
          simp [h0, ltS_tri]
          split <;> rfl
        · have h00 : ¬ (0 : Int) < (j : Int) := by omega
          simp [h0, h00])
    (by unfold m_feature_set_L1; simp) hn]
  have e : anyN l.length (fun i => !q (l.getD i []) || decide (0 < i) && !ltS (l.getD (i - 1) []) (l.getD i [])) = !(l.all q && asc l) := by
    unfold asc
    rw [Bool.eq_iff_iff, anyN_t]
    simp only [Bool.or_eq_true, Bool.not_eq_true', Bool.and_eq_false_iff, List.all_eq_false, Bool.not_eq_false', anyN_t]
    constructor
    · rintro ⟨i, hi, h | h⟩
      · exact .inl ⟨_, List.getElem_mem hi, by simpa [hi] using h⟩
      · exact .inr ⟨i, hi, by simpa using h⟩
    · rintro (⟨x, hx, h⟩ | ⟨i, hi, h⟩)
      · obtain ⟨i, hi, rfl⟩ := List.getElem_of_mem hx
        exact ⟨i, hi, .inl (by simpa [hi] using h)⟩
      · exact ⟨i, hi, .inr (by simpa using h)⟩
  rw [e, hmost, Bool.and_assoc]
  generalize (l.all q && asc l) = b
  cases b <;> simp
theorem aut_last {s : List UInt8} (h : s ≠ []) (hl : s.length ≤ ML) : ixS s (IntKind.i64.wrap ((s.length : Int) - 1)) = some ((s.getD (s.length - 1) 0).toNat : Int) := by
  have h1 := List.length_pos_iff.2 h
  rw [wsub1 h1 hl, ixS_get (by omega)]
theorem u8_32 {c : UInt8} : ((c.toNat : Int) = 32) ↔ c = 32 := by
  constructor
  · intro h; apply UInt8.toNat_inj.1; simp; omega
  · rintro rfl; rfl
theorem feature_ok {n : Nat} {f : SFeatures} (h : FOk f) (hn : ML < n) : m_feature_Valid n f = some (fv f) := by
  have lt : ∀ {k : Nat}, k ≤ ML → k < n := fun hk => by omega
  have hs : ∀ (l : List (List UInt8)) (most : Nat) (p : List UInt8 → Option Bool) (q : List UInt8 → Bool), txs l → (∀ x : List UInt8, x.length ≤ ML → p x = some (q x)) → m_feature_set n l (most : Int) p = some (decide (l.length ≤ most) && l.all q && asc l) :=
    fun l most p q hl hp => set_ok (fun x hx => hp x (hl.2 x hx)) hl.1 (lt hl.1)
  have e1 := hs f.fIsbns 20 (fun y1 => m_feature_isbn n y1) (mde · 13 48 57) h.i (fun x hx => isbn_ok hx (lt hx))
  have e2 := hs f.fLangs 20 (fun y1 => m_feature_lang n y1) (mde · 3 97 122) h.l (fun x hx => lang_ok hx (lt hx))
  have e3 := hs f.fPublisher 200 (fun y1 => m_feature_word n y1) wrd h.p (fun x hx => word_ok hx (lt hx))
  have e4 := hs f.fEdition 200 (fun y1 => m_feature_word n y1) wrd h.e (fun x hx => word_ok hx (lt hx))
  have e5 : m_slices_ContainsFunc_string_string n f.fTitle (fun y1 => m_feature_Valid_1 n y1) = some (f.fTitle.any fun x => !wrd x) :=
    contains_loop n f.fTitle (fun y1 => m_feature_Valid_1 n y1) (fun x => !wrd x) (fun x hx => by
      unfold m_feature_Valid_1; rw [word_ok (h.t.2 x hx) (lt (h.t.2 x hx))]; rfl) h.t.1 (lt h.t.1)
  unfold m_feature_Valid
  rw [only_ok h.a (lt h.a), e5, years_ok h.y (lt h.y)]
  have e1 : m_feature_set n f.fIsbns (20 : Int) (fun y1 => m_feature_isbn n y1) = _ := e1
  have e2 : m_feature_set n f.fLangs (20 : Int) (fun y1 => m_feature_lang n y1) = _ := e2
  have e3 : m_feature_set n f.fPublisher (200 : Int) (fun y1 => m_feature_word n y1) = _ := e3
  have e4 : m_feature_set n f.fEdition (200 : Int) (fun y1 => m_feature_word n y1) = _ := e4
  rw [e1, e2, e3, e4]
  have ha : (f.fTitle.any fun x => !wrd x) = !f.fTitle.all wrd := by
    rw [Bool.eq_iff_iff]; simp
  have c1 : decide (f.fID < 1) = !decide (1 ≤ f.fID) := by rw [← decide_not, decide_eq_decide]; omega
  have c2 : decide (1000000000 < f.fID) = !decide (f.fID ≤ 1000000000) := by rw [← decide_not, decide_eq_decide]; omega
  have c3 : decide ((200 : Int) < (f.fTitle.length : Int)) = !decide (f.fTitle.length ≤ 200) := by rw [← decide_not, decide_eq_decide]; omega
  have c4 : decide ((420 : Int) < (f.fAuthor.length : Int)) = !decide (f.fAuthor.length ≤ 420) := by rw [← decide_not, decide_eq_decide]; omega
  rw [ha, c1, c2, c3, c4]
  unfold fv aut
  generalize (decide (f.fIsbns.length ≤ 20) && f.fIsbns.all (mde · 13 48 57) && asc f.fIsbns) = b3
  generalize (decide (f.fLangs.length ≤ 20) && f.fLangs.all (mde · 3 97 122) && asc f.fLangs) = b4
  generalize (decide (f.fPublisher.length ≤ 200) && f.fPublisher.all wrd && asc f.fPublisher) = b5
  generalize (decide (f.fEdition.length ≤ 200) && f.fEdition.all wrd && asc f.fEdition) = b6
  generalize f.fTitle.all wrd = b1
  generalize yrs f.fYears = b2
  generalize decide (f.fYears.length ≤ 20) = b20
  generalize onl f.fAuthor 32 255 = b7
  generalize decide (1 ≤ f.fID) = d1
  generalize decide (f.fID ≤ 1000000000) = d2
  generalize decide (f.fTitle.length ≤ 200) = d3
  generalize decide (f.fAuthor.length ≤ 420) = d4
  have tail : ∀ X : Option Bool, (some (b2 && b20)).bind (fun v6 => ((if v6 = true then some b3 else some default) : Option Bool).bind fun v7 => ((if (v6 && v7) = true then some b4 else some default) : Option Bool).bind fun v8 =>
      ((if ((v6 && v7) && v8) = true then some b5 else some default) : Option Bool).bind fun v9 => ((if (((v6 && v7) && v8) && v9) = true then some b6 else some default) : Option Bool).bind fun v10 => some ((((v6 && v7) && v8) && v9) && v10)) =
      some (b20 && b2 && b3 && b4 && b5 && b6) := by
    intro _
    cases b2 <;> cases b20 <;> cases b3 <;> cases b4 <;> cases b5 <;> cases b6 <;> rfl
  rw [tail none]
  by_cases h5 : f.fAuthor = []
  · cases d1 <;> cases d2 <;> cases d3 <;> cases d4 <;> cases b7 <;> cases b1 <;> simp [h5]
  · have h6 := List.length_pos_iff.2 h5
    have g0 : ixS f.fAuthor 0 = some ((f.fAuthor.getD 0 0).toNat : Int) := ixS_get (i := 0) h6
    have q1 : decide (((f.fAuthor.getD 0 0).toNat : Int) = 32) = decide (f.fAuthor.getD 0 0 = 32) := by rw [decide_eq_decide]; exact u8_32
    have q2 : decide (((f.fAuthor.getD (f.fAuthor.length - 1) 0).toNat : Int) = 32) = decide (f.fAuthor.getD (f.fAuthor.length - 1) 0 = 32) := by rw [decide_eq_decide]; exact u8_32
    rw [g0, aut_last h5 h.a, decide_eq_false h5]
    simp only [Bool.not_false, if_true, Option.bind_some, Bool.true_and, q1, Bool.false_or]
    generalize decide (f.fAuthor.getD 0 0 = 32) = k1
    cases k1
    · simp only [Bool.not_false, if_true, Option.bind_some, Bool.false_or, q2]
      generalize decide (f.fAuthor.getD (f.fAuthor.length - 1) 0 = 32) = k2
      cases d1 <;> cases d2 <;> cases d3 <;> cases d4 <;> cases b7 <;> cases b1 <;> cases k2 <;> simp
    · cases d1 <;> cases d2 <;> cases d3 <;> cases d4 <;> cases b7 <;> cases b1 <;> simp
end Go.Proofs.Ytgcmhhcopeiomaa.Ab
