/- Plain theory, joined. Conditions: none. -/
import Derived.Test.YtgcmhhcopeiomaaGreatDvo
import Derived.Laws.RangeAny
import Derived.ProofKit
set_option maxRecDepth 100000
namespace Go.Proofs.YtgcmhhcopeiomaaGreat.Ab
open Go
section
open Go
/-- Texts are in one order. -/
theorem bl_tri : ∀ (a b : List UInt8), (Go.Op.bytesLess a b || decide (a = b)) = !Go.Op.bytesLess b a
  | [], [] => rfl
  | [], _ :: _ => rfl
  | _ :: _, [] => rfl
  | x :: a, y :: b => by
    have ih := bl_tri a b
    simp only [Go.Op.bytesLess]
    by_cases h1 : x < y
    · have h2 : ¬ y < x := UInt8.lt_asymm h1
      have h3 : (y == x) = false := by rw [beq_eq_false_iff_ne]; rintro rfl; exact UInt8.lt_irrefl _ h1
      simp [h1, h2, h3]
    · by_cases h2 : y < x
      · have h3 : (x == y) = false := by rw [beq_eq_false_iff_ne]; rintro rfl; exact UInt8.lt_irrefl _ h2
        have h4 : ¬ (x :: a = y :: b) := by intro e; injection e with e; subst e; exact UInt8.lt_irrefl _ h2
        simp [h1, h2, h3, h4]
      · have h3 : x = y := UInt8.le_antisymm (UInt8.not_lt.1 h2) (UInt8.not_lt.1 h1)
        subst h3
        simp only [decide_eq_false h1, Bool.false_or, beq_self_eq_true, Bool.true_and, List.cons.injEq, true_and]
        exact ih
theorem ltS_tri (a b : List UInt8) : (ltS a b || decide (a = b)) = !ltS b a := bl_tri a b
def onl (s : List UInt8) (lo hi : Int) : Bool := s.all fun c => decide (lo ≤ (c.toNat : Int)) && decide ((c.toNat : Int) ≤ hi)
def wrd (s : List UInt8) : Bool := decide (1 ≤ s.length) && decide (s.length ≤ 400) && onl s 33 255
def mde (s : List UInt8) (k : Nat) (lo hi : Int) : Bool := decide (s.length = k) && onl s lo hi
def asc (l : List (List UInt8)) : Bool := !anyN l.length fun i => decide (0 < i) && !ltS (l.getD (i - 1) []) (l.getD i [])
def yrs (l : List Int) : Bool := !anyN l.length fun i => !(decide (1000 ≤ l.getD i 0) && decide (l.getD i 0 ≤ 2999)) || decide (0 < i) && decide (l.getD i 0 ≤ l.getD (i - 1) 0)
def aut (s : List UInt8) : Bool := decide (s.length ≤ 420) && onl s 32 255 && (decide (s = []) || !decide (s.getD 0 0 = 32) && !decide (s.getD (s.length - 1) 0 = 32))
def fv (f : SFeatures) : Bool :=
  decide (1 ≤ f.fID) && decide (f.fID ≤ 1000000000) && decide (f.fTitle.length ≤ 200) && f.fTitle.all wrd && aut f.fAuthor && decide (f.fYears.length ≤ 20) && yrs f.fYears &&
  (decide (f.fIsbns.length ≤ 20) && f.fIsbns.all (mde · 13 48 57) && asc f.fIsbns) && (decide (f.fLangs.length ≤ 20) && f.fLangs.all (mde · 3 97 122) && asc f.fLangs) &&
  (decide (f.fPublisher.length ≤ 200) && f.fPublisher.all wrd && asc f.fPublisher) && (decide (f.fEdition.length ≤ 200) && f.fEdition.all wrd && asc f.fEdition)
/-- Lists that a machine can hold. -/
def txs (l : List (List UInt8)) : Prop := l.length ≤ ML ∧ ∀ x ∈ l, x.length ≤ ML
structure FOk (f : SFeatures) : Prop where
  t : txs f.fTitle
  a : f.fAuthor.length ≤ ML
  y : f.fYears.length ≤ ML
  i : txs f.fIsbns
  l : txs f.fLangs
  p : txs f.fPublisher
  e : txs f.fEdition
theorem only_ok {n : Nat} {s : List UInt8} {lo hi : Int} (hl : s.length ≤ ML) (hn : s.length < n) : m_feature_only n s lo hi = some (onl s lo hi) := by
  have h : m_slices_ContainsFunc_byte_byte n (byteL s) (fun y1 => m_feature_only_1 n y1 lo hi) = some ((byteL s).any fun c => decide (c < lo) || decide (hi < c)) :=
    contains_loop n (byteL s) (fun y1 => m_feature_only_1 n y1 lo hi) (fun c => decide (c < lo) || decide (hi < c)) (fun x _ => rfl) (by simpa [byteL] using hl) (by simpa [byteL] using hn)
  unfold m_feature_only
  rw [h, Option.bind_some]
  congr 1
  unfold onl byteL
  rw [List.any_map, Bool.eq_iff_iff]
  simp only [Bool.not_eq_true', List.any_eq_false, List.all_eq_true, Function.comp_apply, Bool.or_eq_true, decide_eq_true_eq, Bool.and_eq_true, not_or]
  exact ⟨fun h x hx => by have := h x hx; omega, fun h x hx => by have := h x hx; omega⟩
theorem word_ok {n : Nat} {s : List UInt8} (hl : s.length ≤ ML) (hn : s.length < n) : m_feature_word n s = some (wrd s) := by
  unfold m_feature_word wrd
  rw [only_ok hl hn]
  by_cases h : s = []
  · subst h; simp
  · have h1 : 1 ≤ s.length := List.length_pos_iff.2 h
    by_cases h2 : s.length ≤ 400
    · have h3 : (s.length : Int) ≤ 400 := by omega
      simp [h, h1, h2, h3]
    · have h3 : ¬ (s.length : Int) ≤ 400 := by omega
      simp [h, h1, h2, h3]
theorem isbn_ok {n : Nat} {s : List UInt8} (hl : s.length ≤ ML) (hn : s.length < n) : m_feature_isbn n s = some (mde s 13 48 57) := by
  unfold m_feature_isbn mde
  rw [only_ok hl hn]
  by_cases h : s.length = 13
  · simp [h]
  · have h2 : ¬ (s.length : Int) = 13 := by omega
    simp [h, h2]
theorem lang_ok {n : Nat} {s : List UInt8} (hl : s.length ≤ ML) (hn : s.length < n) : m_feature_lang n s = some (mde s 3 97 122) := by
  unfold m_feature_lang mde
  rw [only_ok hl hn]
  by_cases h : s.length = 3
  · simp [h]
  · have h2 : ¬ (s.length : Int) = 3 := by omega
    simp [h, h2]
theorem wsub1 {j : Nat} (h : 0 < j) (hm : j ≤ ML) : IntKind.i64.wrap ((j : Int) - 1) = ((j - 1 : Nat) : Int) := by
  rw [w64 (by omega) (by simp only [ML] at hm; omega)]; omega
theorem years_ok {n : Nat} {l : List Int} (hl : l.length ≤ ML) (hn : l.length < n) : m_feature_years n l = some (yrs l && decide (l.length ≤ 20)) := by
  unfold m_feature_years
  rw [iter_any (ρ := Bool ⊕ Unit) l.length n (fun i => !(decide (1000 ≤ l.getD i 0) && decide (l.getD i 0 ≤ 2999)) || decide (0 < i) && decide (l.getD i 0 ≤ l.getD (i - 1) 0)) (.inl false) (.inr ())
    (fun j hj => by
      unfold m_feature_years_L1
      simp only [show ((j : Int) < (l.length : Int)) from by omega, decide_true, if_true, ix_get 0 hj, Option.bind_some, wadd1 hj hl]
      generalize hx : l.getD j 0 = x
      by_cases h0 : 0 < j
      · have h1 : l.length ≤ ML := hl
        rw [wsub1 h0 (by omega), ix_get 0 (show j - 1 < l.length by omega)]
        generalize l.getD (j - 1) 0 = y
        by_cases q1 : x < 1000
        · simp [q1, show ¬ 1000 ≤ x by omega]
        · by_cases q2 : 2999 < x
          · simp [q1, q2, show ¬ x ≤ 2999 by omega]
          · simp [q1, q2, h0, show 1000 ≤ x by omega, show x ≤ 2999 by omega]
            split <;> rfl
      · have h00 : ¬ (0 : Int) < (j : Int) := by omega
        by_cases q1 : x < 1000
        · simp [q1, h0, h00, show ¬ 1000 ≤ x by omega]
        · by_cases q2 : 2999 < x
          · simp [q1, q2, h0, h00, show ¬ x ≤ 2999 by omega]
          · simp [q1, q2, h0, h00, show 1000 ≤ x by omega, show x ≤ 2999 by omega])
    (by unfold m_feature_years_L1; simp) hn]
  have h20 : decide ((l.length : Int) ≤ 20) = decide (l.length ≤ 20) := by rw [decide_eq_decide]; omega
  unfold yrs
  rw [h20]
  generalize anyN l.length _ = b
  cases b <;> simp
theorem set_ok {n : Nat} {l : List (List UInt8)} {most : Nat} {p : List UInt8 → Option Bool} {q : List UInt8 → Bool} (hp : ∀ x ∈ l, p x = some (q x)) (hl : l.length ≤ ML) (hn : l.length < n) :
    m_feature_set n l (most : Int) p = some (decide (l.length ≤ most) && l.all q && asc l) := by
  have hmost : decide ((l.length : Int) ≤ (most : Int)) = decide (l.length ≤ most) := by rw [decide_eq_decide]; omega
  unfold m_feature_set
  rw [iter_any (ρ := Bool ⊕ Unit) l.length n (fun i => !q (l.getD i []) || decide (0 < i) && !ltS (l.getD (i - 1) []) (l.getD i [])) (.inl false) (.inr ())
    (fun j hj => by
      unfold m_feature_set_L1
      have hm : l.getD j [] ∈ l := by simp [hj]
      simp only [show ((j : Int) < (l.length : Int)) from by omega, decide_true, if_true, ix_get [] hj, Option.bind_some, wadd1 hj hl, hp _ hm]
      generalize hx : l.getD j [] = x
      cases hq : q x
      · simp
      · by_cases h0 : 0 < j
        · rw [wsub1 h0 (by omega), ix_get [] (show j - 1 < l.length by omega)]
          generalize l.getD (j - 1) [] = y
          simp [h0, ltS_tri]
          split <;> rfl
        · have h00 : ¬ (0 : Int) < (j : Int) := by omega
          simp [h0, h00])
    (by unfold m_feature_set_L1; simp) hn]
  have e : anyN l.length (fun i => !q (l.getD i []) || decide (0 < i) && !ltS (l.getD (i - 1) []) (l.getD i [])) = !(l.all q && asc l) := by
    unfold asc
    rw [Bool.eq_iff_iff, anyN_t]
    simp only [Bool.or_eq_true, Bool.not_eq_true', Bool.and_eq_false_iff, List.all_eq_false, Bool.not_eq_false', anyN_t]
    constructor
    · rintro ⟨i, hi, h | h⟩
      · exact .inl ⟨_, List.getElem_mem hi, by simpa [hi] using h⟩
      · exact .inr ⟨i, hi, by simpa using h⟩
    · rintro (⟨x, hx, h⟩ | ⟨i, hi, h⟩)
      · obtain ⟨i, hi, rfl⟩ := List.getElem_of_mem hx
        exact ⟨i, hi, .inl (by simpa [hi] using h)⟩
      · exact ⟨i, hi, .inr (by simpa using h)⟩
  rw [e, hmost, Bool.and_assoc]
  generalize (l.all q && asc l) = b
  cases b <;> simp
theorem aut_last {s : List UInt8} (h : s ≠ []) (hl : s.length ≤ ML) : ixS s (IntKind.i64.wrap ((s.length : Int) - 1)) = some ((s.getD (s.length - 1) 0).toNat : Int) := by
  have h1 := List.length_pos_iff.2 h
  rw [wsub1 h1 hl, ixS_get (by omega)]
theorem u8_32 {c : UInt8} : ((c.toNat : Int) = 32) ↔ c = 32 := by
  constructor
  · intro h; apply UInt8.toNat_inj.1; simp; omega
  · rintro rfl; rfl
theorem feature_ok {n : Nat} {f : SFeatures} (h : FOk f) (hn : ML < n) : m_feature_Valid n f = some (fv f) := by
  have lt : ∀ {k : Nat}, k ≤ ML → k < n := fun hk => by omega
  have hs : ∀ (l : List (List UInt8)) (most : Nat) (p : List UInt8 → Option Bool) (q : List UInt8 → Bool), txs l → (∀ x : List UInt8, x.length ≤ ML → p x = some (q x)) → m_feature_set n l (most : Int) p = some (decide (l.length ≤ most) && l.all q && asc l) :=
    fun l most p q hl hp => set_ok (fun x hx => hp x (hl.2 x hx)) hl.1 (lt hl.1)
  have e1 := hs f.fIsbns 20 (fun y1 => m_feature_isbn n y1) (mde · 13 48 57) h.i (fun x hx => isbn_ok hx (lt hx))
  have e2 := hs f.fLangs 20 (fun y1 => m_feature_lang n y1) (mde · 3 97 122) h.l (fun x hx => lang_ok hx (lt hx))
  have e3 := hs f.fPublisher 200 (fun y1 => m_feature_word n y1) wrd h.p (fun x hx => word_ok hx (lt hx))
  have e4 := hs f.fEdition 200 (fun y1 => m_feature_word n y1) wrd h.e (fun x hx => word_ok hx (lt hx))
  have e5 : m_slices_ContainsFunc_string_string n f.fTitle (fun y1 => m_feature_Valid_1 n y1) = some (f.fTitle.any fun x => !wrd x) :=
    contains_loop n f.fTitle (fun y1 => m_feature_Valid_1 n y1) (fun x => !wrd x) (fun x hx => by
      unfold m_feature_Valid_1; rw [word_ok (h.t.2 x hx) (lt (h.t.2 x hx))]; rfl) h.t.1 (lt h.t.1)
  unfold m_feature_Valid
  rw [only_ok h.a (lt h.a), e5, years_ok h.y (lt h.y)]
  have e1 : m_feature_set n f.fIsbns (20 : Int) (fun y1 => m_feature_isbn n y1) = _ := e1
  have e2 : m_feature_set n f.fLangs (20 : Int) (fun y1 => m_feature_lang n y1) = _ := e2
  have e3 : m_feature_set n f.fPublisher (200 : Int) (fun y1 => m_feature_word n y1) = _ := e3
  have e4 : m_feature_set n f.fEdition (200 : Int) (fun y1 => m_feature_word n y1) = _ := e4
  rw [e1, e2, e3, e4]
  have ha : (f.fTitle.any fun x => !wrd x) = !f.fTitle.all wrd := by
    rw [Bool.eq_iff_iff]; simp
  have c1 : decide (f.fID < 1) = !decide (1 ≤ f.fID) := by rw [← decide_not, decide_eq_decide]; omega
  have c2 : decide (1000000000 < f.fID) = !decide (f.fID ≤ 1000000000) := by rw [← decide_not, decide_eq_decide]; omega
  have c3 : decide ((200 : Int) < (f.fTitle.length : Int)) = !decide (f.fTitle.length ≤ 200) := by rw [← decide_not, decide_eq_decide]; omega
  have c4 : decide ((420 : Int) < (f.fAuthor.length : Int)) = !decide (f.fAuthor.length ≤ 420) := by rw [← decide_not, decide_eq_decide]; omega
  rw [ha, c1, c2, c3, c4]
  unfold fv aut
  generalize (decide (f.fIsbns.length ≤ 20) && f.fIsbns.all (mde · 13 48 57) && asc f.fIsbns) = b3
  generalize (decide (f.fLangs.length ≤ 20) && f.fLangs.all (mde · 3 97 122) && asc f.fLangs) = b4
  generalize (decide (f.fPublisher.length ≤ 200) && f.fPublisher.all wrd && asc f.fPublisher) = b5
  generalize (decide (f.fEdition.length ≤ 200) && f.fEdition.all wrd && asc f.fEdition) = b6
  generalize f.fTitle.all wrd = b1
  generalize yrs f.fYears = b2
  generalize decide (f.fYears.length ≤ 20) = b20
  generalize onl f.fAuthor 32 255 = b7
  generalize decide (1 ≤ f.fID) = d1
  generalize decide (f.fID ≤ 1000000000) = d2
  generalize decide (f.fTitle.length ≤ 200) = d3
  generalize decide (f.fAuthor.length ≤ 420) = d4
  have tail : ∀ X : Option Bool, (some (b2 && b20)).bind (fun v6 => ((if v6 = true then some b3 else some default) : Option Bool).bind fun v7 => ((if (v6 && v7) = true then some b4 else some default) : Option Bool).bind fun v8 =>
      ((if ((v6 && v7) && v8) = true then some b5 else some default) : Option Bool).bind fun v9 => ((if (((v6 && v7) && v8) && v9) = true then some b6 else some default) : Option Bool).bind fun v10 => some ((((v6 && v7) && v8) && v9) && v10)) =
      some (b20 && b2 && b3 && b4 && b5 && b6) := by
    intro _
    cases b2 <;> cases b20 <;> cases b3 <;> cases b4 <;> cases b5 <;> cases b6 <;> rfl
  rw [tail none]
  by_cases h5 : f.fAuthor = []
  · cases d1 <;> cases d2 <;> cases d3 <;> cases d4 <;> cases b7 <;> cases b1 <;> simp [h5]
  · have h6 := List.length_pos_iff.2 h5
    have g0 : ixS f.fAuthor 0 = some ((f.fAuthor.getD 0 0).toNat : Int) := ixS_get (i := 0) h6
    have q1 : decide (((f.fAuthor.getD 0 0).toNat : Int) = 32) = decide (f.fAuthor.getD 0 0 = 32) := by rw [decide_eq_decide]; exact u8_32
    have q2 : decide (((f.fAuthor.getD (f.fAuthor.length - 1) 0).toNat : Int) = 32) = decide (f.fAuthor.getD (f.fAuthor.length - 1) 0 = 32) := by rw [decide_eq_decide]; exact u8_32
    rw [g0, aut_last h5 h.a, decide_eq_false h5]
    simp only [Bool.not_false, if_true, Option.bind_some, Bool.true_and, q1, Bool.false_or]
    generalize decide (f.fAuthor.getD 0 0 = 32) = k1
    cases k1
    · simp only [Bool.not_false, if_true, Option.bind_some, Bool.false_or, q2]
      generalize decide (f.fAuthor.getD (f.fAuthor.length - 1) 0 = 32) = k2
      cases d1 <;> cases d2 <;> cases d3 <;> cases d4 <;> cases b7 <;> cases b1 <;> cases k2 <;> simp
    · cases d1 <;> cases d2 <;> cases d3 <;> cases d4 <;> cases b7 <;> cases b1 <;> simp
end
section
open Go

/-! ### counting in a map -/
theorem iterR_count {α : Type} {f : Int → α → Option (Int ⊕ Int)} {p : α → Bool} (h : ∀ s e, f s e = some (.inl (if p e = true then IntKind.i64.wrap (s + 1) else s))) :
    ∀ (l : List α) (s : Int), 0 ≤ s → s + l.length ≤ ML → iterR f (fun s => s) s l = some (s + (l.countP p : Nat))
  | [], s, _, _ => by simp [iterR]
  | e :: l, s, h0, hl => by
    simp only [List.length_cons] at hl
    rw [iterR, h]
    simp only [Option.bind_some]
    cases hp : p e with
    | true =>
      simp only [if_true]
      rw [w64 (by omega) (by simp only [ML] at hl; omega), iterR_count h l (s + 1) (by omega) (by omega), List.countP_cons, hp]
      congr 1; simp; omega
    | false =>
      simp only [Bool.false_eq_true, if_false]
      rw [iterR_count h l s h0 (by omega), List.countP_cons, hp]; simp
theorem rangeM_count {α : Type} {f : Int → α → Option (Int ⊕ Int)} {p : α → Bool} (h : ∀ s e, f s e = some (.inl (if p e = true then IntKind.i64.wrap (s + 1) else s))) {l : List α} (hl : l.length ≤ ML) :
    rangeM f (fun s => s) 0 l = some ((l.countP p : Nat) : Int) :=
  rangeM_of fun q hq => by
    rw [iterR_count h q 0 (by omega) (by rw [hq.length_eq]; omega), hq.countP_eq]; simp

/-! ### maps from words to numbers -/
theorem mfind_none {κ ν : Type} [DecidableEq κ] {k : κ} : ∀ {m : List (κ × ν)}, mfind m k = none ↔ k ∉ m.map (·.1)
  | [] => by simp [mfind]
  | x :: m => by
    unfold mfind
    by_cases h : k = x.1
    · simp [h]
    · simp [h, mfind_none (m := m)]
theorem mput_keys {κ ν : Type} [DecidableEq κ] {k : κ} {v : ν} {m : List (κ × ν)} : (mput m k v).map (·.1) = if k ∈ m.map (·.1) then m.map (·.1) else m.map (·.1) ++ [k] := by
  unfold mput
  cases h : mfind m k with
  | none => rw [if_neg (mfind_none.1 h)]; simp
  | some j =>
    obtain ⟨x, h1, h2⟩ := mfind_lt h
    have hm : k ∈ m.map (·.1) := by
      subst h2
      exact List.mem_map.2 ⟨x, List.mem_of_getElem? h1, rfl⟩
    rw [if_pos hm]
    simp only [List.map_set]
    subst h2
    apply List.ext_getElem? 
    intro i
    rw [List.getElem?_set]
    by_cases hij : j = i
    · subst hij
      have hlt := (List.getElem?_eq_some_iff.1 h1).1
      rw [if_pos rfl, if_pos (by simpa using hlt), List.getElem?_map, h1]; rfl
    · simp [hij]
theorem mget_mem {κ ν : Type} [DecidableEq κ] {k : κ} {v : ν} {m : List (κ × ν)} (h : mget m k = some v) : (k, v) ∈ m := by
  unfold mget at h
  rw [Option.bind_eq_some_iff] at h
  obtain ⟨j, h1, h2⟩ := h
  obtain ⟨x, h3, rfl⟩ := mfind_lt h1
  rw [h3] at h2
  simp at h2; subst h2
  exact List.mem_of_getElem? h3
theorem mem_mget {κ ν : Type} [DecidableEq κ] {k : κ} {v : ν} : ∀ {m : List (κ × ν)}, (m.map (·.1)).Nodup → (k, v) ∈ m → mget m k = some v
  | x :: m, hn, h => by
    simp only [List.map_cons, List.nodup_cons] at hn
    rcases List.mem_cons.1 h with rfl | h
    · simp [mget, mfind]
    · have hk : k ∈ m.map (·.1) := List.mem_map.2 ⟨_, h, rfl⟩
      have hne : k ≠ x.1 := fun e => hn.1 (e ▸ hk)
      have ih := mem_mget hn.2 h
      unfold mget at ih ⊢
      unfold mfind
      rw [if_neg hne]
      cases hf : mfind m k with
      | none => rw [hf] at ih; simp at ih
      | some j => rw [hf] at ih; simpa using ih
theorem mget_none {κ ν : Type} [DecidableEq κ] {k : κ} {m : List (κ × ν)} : mget m k = none ↔ k ∉ m.map (·.1) := by
  constructor
  · intro h hk
    cases hf : mfind m k with
    | none => exact mfind_none.1 hf hk
    | some j =>
      obtain ⟨x, h1, _⟩ := mfind_lt hf
      simp [mget, hf, h1] at h
  · intro h
    simp [mget, mfind_none.2 h]
theorem mget_put {κ ν : Type} [DecidableEq κ] {k q : κ} {v : ν} {m : List (κ × ν)} (hn : (m.map (·.1)).Nodup) : mget (mput m k v) q = if q = k then some v else mget m q := by
  have hn2 : ((mput m k v).map (·.1)).Nodup := by
    rw [mput_keys]
    split
    · exact hn
    · rename_i h
      rw [List.nodup_append]
      exact ⟨hn, by simp, fun a ha b hb => by simp at hb; subst hb; rintro rfl; exact h ha⟩
  by_cases hq : q = k
  · subst hq
    rw [if_pos rfl]
    refine mem_mget hn2 ?_
    unfold mput
    cases hf : mfind m q with
    | none => simp
    | some j =>
      obtain ⟨x, h1, _⟩ := mfind_lt hf
      exact List.mem_of_getElem? (i := j) (by simp [(List.getElem?_eq_some_iff.1 h1).1])
  · rw [if_neg hq]
    cases hg : mget m q with
    | none =>
      rw [mget_none] at hg ⊢
      rw [mput_keys]
      split
      · exact hg
      · simp [hg, hq]
    | some w =>
      refine mem_mget hn2 ?_
      have hw := mget_mem hg
      unfold mput
      cases hf : mfind m k with
      | none => exact List.mem_append_left _ hw
      | some j =>
        obtain ⟨x, h1, h2⟩ := mfind_lt hf
        obtain ⟨i, hi⟩ := List.getElem?_of_mem hw
        have hij : j ≠ i := by rintro rfl; rw [h1] at hi; injection hi with hi; subst hi; exact hq h2
        exact List.mem_of_getElem? (i := i) (by rw [List.getElem?_set, if_neg hij]; exact hi)
theorem nodup_put {κ ν : Type} [DecidableEq κ] {k : κ} {v : ν} {m : List (κ × ν)} (hn : (m.map (·.1)).Nodup) : ((mput m k v).map (·.1)).Nodup := by
  rw [mput_keys]
  split
  · exact hn
  · rename_i h
    rw [List.nodup_append]
    exact ⟨hn, by simp, fun a ha b hb => by simp at hb; subst hb; rintro rfl; exact h ha⟩
theorem perm_of_same {α : Type} [DecidableEq α] : ∀ {l m : List α}, l.Nodup → m.Nodup → (∀ x, x ∈ l ↔ x ∈ m) → l.Perm m
  | [], m, _, _, h => by
    cases m with
    | nil => exact .refl _
    | cons y m => exact absurd ((h y).2 (List.mem_cons_self ..)) (by simp)
  | x :: l, m, hl, hm, h => by
    have hx : x ∈ m := (h x).1 (List.mem_cons_self ..)
    have p := List.perm_cons_erase hx
    rw [List.nodup_cons] at hl
    refine .trans (.cons x (perm_of_same hl.2 (hm.erase x) fun y => ?_)) p.symm
    rw [hm.mem_erase_iff]
    constructor
    · intro hy; exact ⟨fun e => hl.1 (e ▸ hy), (h y).1 (List.mem_cons_of_mem _ hy)⟩
    · rintro ⟨h1, h2⟩
      rcases List.mem_cons.1 ((h y).2 h2) with rfl | h3
      · exact absurd rfl h1
      · exact h3

/-! ### close words -/
abbrev WM := List (List UInt8 × Int)
/-- A map that says of each word what it says. -/
def says (M : WM) (v : List UInt8 → Int) : Prop := (M.map (·.1)).Nodup ∧ ∀ k, mget M k = if v k = 0 then none else some (v k)
theorem says_count {M : WM} {v : List UInt8 → Int} (h : says M v) : M.countP (fun e => decide (e.2 = 3)) = (M.map (·.1)).countP (fun k => decide (v k = 3)) := by
  rw [List.countP_map]
  refine List.countP_congr fun e he => ?_
  have := mem_mget h.1 (show (e.1, e.2) ∈ M from he)
  rw [h.2] at this
  split at this
  · cases this
  · injection this with this; simp [this]
def bt (a : List (List UInt8)) (k : Int) (w : List UInt8) : Int := if w ∈ a then k else 0
def vv (a b : List (List UInt8)) (w : List UInt8) : Int := bt a 1 w + bt b 2 w
theorem says_or {M : WM} {v : List UInt8 → Int} {w : List UInt8} {k : Int} (h : says M v) (hk : bitM .i64 (· ||| ·) (v w) k ≠ 0) : says (mput M w (bitM .i64 (· ||| ·) ((mget M w).getD 0) k)) (fun q => if q = w then bitM .i64 (· ||| ·) (v w) k else v q) := by
  refine ⟨nodup_put h.1, fun q => ?_⟩
  rw [mget_put h.1]
  have e : (mget M w).getD 0 = v w := by
    rw [h.2]
    split
    · rename_i h0; simp [h0]
    · simp
  rw [e]
  by_cases hq : q = w
  · simp [hq, hk]
  · simp [hq, h.2]
theorem bt_snoc {a : List (List UInt8)} {k : Int} {w q : List UInt8} : bt (a ++ [w]) k q = if q = w then k else bt a k q := by
  unfold bt
  by_cases h : q = w <;> simp [h]
theorem take_snoc {α : Type} {l : List α} {i : Nat} (d : α) (h : i < l.length) : l.take (i + 1) = l.take i ++ [l.getD i d] := by
  rw [List.take_add_one]; simp [h]
theorem close_L1 {n : Nat} {a : List (List UInt8)} (hl : a.length ≤ ML) (hn : a.length < n) : ∃ M, iter n (fun s => m_match_closeWords_L1 n a s.1 s.2) ((0 : Int), []) = some M ∧ says M (bt a 1) ∧ M.length ≤ a.length := by
  refine iter_inv (σ := Int × WM) (I := fun k s => ∃ i : Nat, s.1 = i ∧ i + k = a.length ∧ says s.2 (bt (a.take i) 1) ∧ s.2.length ≤ i) (Q := fun M : WM => says M (bt a 1) ∧ M.length ≤ a.length) ?_ a.length n _ ⟨0, rfl, by omega, ⟨by simp, fun k => by simp [bt, mget, mfind]⟩, by simp⟩ hn
  rintro k ⟨x, M⟩ ⟨i, h1, h2, h3, h4⟩
  dsimp only at h1 h3 h4
  subst h1
  simp only [m_match_closeWords_L1]
  by_cases hk : k = 0
  · right
    have e0 : i = a.length := by omega
    subst e0
    rw [List.take_length] at h3
    exact ⟨M, by simp, h3, h4⟩
  · left
    have hi : i < a.length := by omega
    simp only [show (i : Int) < a.length by omega, decide_true, if_true, ix_get [] hi, Option.bind_some, wadd1 hi hl]
    refine ⟨_, k - 1, rfl, by omega, i + 1, rfl, by omega, ?_, ?_⟩
    · rw [take_snoc [] hi]
      generalize a.getD i [] = w
      have hb : bt (a.take i) 1 w = 0 ∨ bt (a.take i) 1 w = 1 := by unfold bt; split <;> simp
      have hv : bitM .i64 (· ||| ·) (bt (a.take i) 1 w) 1 = 1 := by rcases hb with h | h <;> rw [h] <;> decide
      have := says_or (w := w) (k := 1) h3 (by rw [hv]; decide)
      rw [hv] at this
      have e : (fun q => if q = w then (1 : Int) else bt (a.take i) 1 q) = bt (a.take i ++ [w]) 1 := by funext q; rw [bt_snoc]
      rw [e] at this; exact this
    · have := congrArg List.length (mput_keys (m := M) (k := a.getD i []) (v := bitM .i64 (· ||| ·) ((mget M (a.getD i [])).getD 0) 1))
      simp only [List.length_map] at this
      show (mput M (a.getD i []) _).length ≤ i + 1
      rw [this]
      split <;> simp <;> omega
theorem close_L2 {n : Nat} {b : List (List UInt8)} {M0 : WM} {u : List (List UInt8)} (h0 : says M0 (bt u 1)) (hl : b.length ≤ ML) (hn : b.length < n) : ∃ M, iter n (fun s => m_match_closeWords_L2 n b s.1 s.2) ((0 : Int), M0) = some M ∧ says M (vv u b) ∧ M.length ≤ M0.length + b.length := by
  refine iter_inv (σ := Int × WM) (I := fun k s => ∃ i : Nat, s.1 = i ∧ i + k = b.length ∧ says s.2 (vv u (b.take i)) ∧ s.2.length ≤ M0.length + i) (Q := fun M : WM => says M (vv u b) ∧ M.length ≤ M0.length + b.length) ?_ b.length n _ ⟨0, rfl, by omega, (by
    have e : vv u (b.take 0) = bt u 1 := by funext q; simp [vv, bt]
    rw [e]; exact h0), by simp⟩ hn
  rintro k ⟨x, M⟩ ⟨i, h1, h2, h3, h4⟩
  dsimp only at h1 h3 h4
  subst h1
  simp only [m_match_closeWords_L2]
  by_cases hk : k = 0
  · right
    have e0 : i = b.length := by omega
    subst e0
    rw [List.take_length] at h3
    exact ⟨M, by simp, h3, h4⟩
  · left
    have hi : i < b.length := by omega
    simp only [show (i : Int) < b.length by omega, decide_true, if_true, ix_get [] hi, Option.bind_some, wadd1 hi hl]
    refine ⟨_, k - 1, rfl, by omega, i + 1, rfl, by omega, ?_, ?_⟩
    · rw [take_snoc [] hi]
      generalize b.getD i [] = w
      have hb : bitM .i64 (· ||| ·) (vv u (b.take i) w) 2 = bt u 1 w + 2 := by
        unfold vv
        have h1 : bt u 1 w = 0 ∨ bt u 1 w = 1 := by unfold bt; split <;> simp
        have h2 : bt (b.take i) 2 w = 0 ∨ bt (b.take i) 2 w = 2 := by unfold bt; split <;> simp
        rcases h1 with h1 | h1 <;> rcases h2 with h2 | h2 <;> rw [h1, h2] <;> decide
      have hne : bt u 1 w + 2 ≠ 0 := by
        have h1 : bt u 1 w = 0 ∨ bt u 1 w = 1 := by unfold bt; split <;> simp
        omega
      have := says_or (w := w) (k := 2) h3 (by rw [hb]; exact hne)
      rw [hb] at this
      have e : (fun q => if q = w then bt u 1 w + 2 else vv u (b.take i) q) = vv u (b.take i ++ [w]) := by
        funext q; simp only [vv, bt_snoc]
        by_cases hq : q = w
        · subst hq; simp
        · simp [hq]
      rw [e] at this; exact this
    · have := congrArg List.length (mput_keys (m := M) (k := b.getD i []) (v := bitM .i64 (· ||| ·) ((mget M (b.getD i [])).getD 0) 2))
      simp only [List.length_map] at this
      show (mput M (b.getD i []) _).length ≤ M0.length + (i + 1)
      rw [this]
      split <;> simp <;> omega
noncomputable def cw (a b : List (List UInt8)) : Bool := (m_match_closeWords FU a b).getD false
theorem closeWords_ok {a b : List (List UInt8)} (ha : a.length ≤ 1000000000) (hb : b.length ≤ 1000000000) : ∃ M : WM, says M (vv a b) ∧ m_match_closeWords FU a b = some ((decide ((0 : Int) < (M.length : Int))) && (decide ((IntKind.i64.wrap ((3 : Int) * (M.length : Int))) ≤ (IntKind.i64.wrap ((4 : Int) * ((M.countP (fun e => decide (e.2 = 3)) : Nat) : Int)))))) := by
  obtain ⟨M1, h1, h2, h3⟩ := close_L1 (n := FU) (a := a) (by simp only [ML]; omega) (by simp only [FU]; omega)
  obtain ⟨M, h4, h5, h6⟩ := close_L2 (n := FU) (b := b) h2 (by simp only [ML]; omega) (by simp only [FU]; omega)
  refine ⟨M, h5, ?_⟩
  unfold m_match_closeWords
  rw [h1, Option.bind_some, h4, Option.bind_some, rangeM_count (p := fun e => decide (e.2 = 3)) (fun s e => by
    unfold m_match_closeWords_L3
    cases decide (e.2 = 3) <;> rfl) (by simp only [ML]; omega)]
  rfl
theorem closeWords_cw {a b : List (List UInt8)} (ha : a.length ≤ 1000000000) (hb : b.length ≤ 1000000000) : m_match_closeWords FU a b = some (cw a b) := by
  obtain ⟨M, _, h⟩ := closeWords_ok ha hb
  unfold cw
  rw [h]; rfl
end
section
open Go

/-! ### the characters of a text -/
theorem width_pos31 (s : ByteArray) (pos : Nat) (h : pos < s.size) : 1 ≤ (Utf8.decode s pos).2 := by
  by_cases ha : (s[pos]'h).toNat < 128
  · rw [decode_ascii s pos h ha]
    exact Nat.le_refl _
  · exact (decode_high s pos h (by omega)).2
noncomputable def chs (s : List UInt8) : List Int := (m_editdist_Chars FU s).getD []
theorem chars_ok {s : List UInt8} (h : s.length ≤ 1000000000) : m_editdist_Chars FU s = some (chs s) ∧ (chs s).length ≤ s.length := by
  obtain ⟨t, h1, h2⟩ := iter_inv (σ := List Int × Nat) (f := fun x => m_editdist_Chars_L1 FU s x.1 x.2) (I := fun k x => k = s.length - x.2 ∧ x.1.length + (s.length - x.2) ≤ s.length) (Q := fun t : List Int × Nat => t.1.length ≤ s.length) (by
    rintro k ⟨l, p⟩ ⟨h1, h2⟩
    dsimp only at h1 h2
    simp only [m_editdist_Chars_L1, siN, Option.bind_some]
    by_cases hp : p < s.length
    · left
      have hw := width_pos31 ⟨s.toArray⟩ p (by simpa [ByteArray.size] using hp)
      simp only [if_pos hp]
      rw [app_one (by omega) (by omega), Option.bind_some, if_pos trivial]
      refine ⟨_, s.length - (p + (Utf8.decode ⟨s.toArray⟩ p).2), rfl, by omega, rfl, ?_⟩
      simp only [List.length_append, List.length_singleton]; omega
    · right
      simp only [if_neg hp]
      exact ⟨(l, p), rfl, by dsimp only; omega⟩) s.length FU ([], 0) ⟨by simp, by simp⟩ (by simp only [FU]; omega)
  have e : m_editdist_Chars FU s = some t.1 := by
    unfold m_editdist_Chars
    rw [h1]; rfl
  unfold chs
  rw [e]
  exact ⟨rfl, h2⟩

/-! ### the distance of two lists -/
def dd (a b : List Int) : Nat → Nat → Nat
  | 0, j => j
  | i + 1, 0 => i + 1
  | i + 1, j + 1 => if a.getD i 0 = b.getD j 0 then dd a b i j else 1 + min (min (dd a b i j) (dd a b (i + 1) j)) (dd a b i (j + 1))
termination_by i j => (i, j)
theorem dd_zero (a b : List Int) (j : Nat) : dd a b 0 j = j := by rw [dd]
theorem dd_left (a b : List Int) (i : Nat) : dd a b i 0 = i := by cases i <;> rw [dd]
theorem dd_step (a b : List Int) (i j : Nat) : dd a b (i + 1) (j + 1) = if a.getD i 0 = b.getD j 0 then dd a b i j else 1 + min (min (dd a b i j) (dd a b (i + 1) j)) (dd a b i (j + 1)) := by rw [dd]
theorem dd_le (a b : List Int) : ∀ (k i j : Nat), i + j ≤ k → dd a b i j ≤ i + j := by
  intro k
  induction k with
  | zero => intro i j h; obtain rfl : i = 0 := by omega
            rw [dd_zero]; omega
  | succ k ih =>
    intro i j h
    cases i with
    | zero => rw [dd_zero]; omega
    | succ i =>
      cases j with
      | zero => rw [dd_left]; omega
      | succ j =>
        rw [dd_step]
        have := ih i j (by omega)
        split
        · omega
        · have h1 : min (min (dd a b i j) (dd a b (i + 1) j)) (dd a b i (j + 1)) ≤ dd a b i j := Nat.le_trans (Nat.min_le_left _ _) (Nat.min_le_left _ _)
          omega
theorem dist_L1 {n m : Nat} {z : List Int} (hz : z.length = m + 1) (hm : m ≤ 1000000000) (hn : m + 1 < n) : ∃ r, iter n (fun s => m_editdist_Distance_L1 n z s.1 s.2) ((0 : Int), z) = some r ∧ r.length = m + 1 ∧ ∀ x, x ≤ m → r.getD x 0 = (x : Int) := by
  refine iter_inv (σ := Int × List Int) (I := fun k s => ∃ j : Nat, s.1 = j ∧ j + k = m + 1 ∧ s.2.length = m + 1 ∧ ∀ x, x < j → s.2.getD x 0 = (x : Int)) (Q := fun r : List Int => r.length = m + 1 ∧ ∀ x, x ≤ m → r.getD x 0 = (x : Int)) ?_ (m + 1) n _ ⟨0, rfl, by omega, hz, fun x hx => by omega⟩ hn
  rintro k ⟨c, r⟩ ⟨j, h1, h2, h3, h4⟩
  dsimp only at h1 h3 h4
  subst h1
  simp only [m_editdist_Distance_L1, hz]
  by_cases hk : k = 0
  · right
    refine ⟨r, by rw [if_neg (by simp; omega)], h3, fun x hx => h4 x (by omega)⟩
  · left
    rw [if_pos (by simp; omega), ix_get 0 (by omega), Option.bind_some, setI_some (by omega) (by omega), Option.bind_some, w64 (by omega) (by omega)]
    refine ⟨_, k - 1, rfl, by omega, j + 1, by simp, by omega, by simpa using h3, fun x hx => ?_⟩
    simp only [Int.toNat_natCast]
    rw [getD_set _ _ _ _ _ (by omega)]
    split
    · rename_i e; rw [e]
    · exact h4 x (by omega)
theorem dist_L3 {n : Nat} {a b : List Int} {i : Nat} {r : List Int} (hr : r.length = b.length + 1) (hb : b.length ≤ 1000000000) (hi : i < a.length) (ha : a.length ≤ 1000000000) (h0 : r.getD 0 0 = ((i + 1 : Nat) : Int)) (hrow : ∀ x, 0 < x → x ≤ b.length → r.getD x 0 = (dd a b i x : Nat)) (hn : b.length < n) :
    ∃ t, iter n (fun s => m_editdist_Distance_L3 n b (a.getD i 0) s.1 s.2.1 s.2.2) ((i : Int), (0 : Int), r) = some t ∧ t.length = b.length + 1 ∧ ∀ x, x ≤ b.length → t.getD x 0 = (dd a b (i + 1) x : Nat) := by
  refine iter_inv (σ := Int × Int × List Int) (I := fun k s => ∃ j : Nat, s.2.1 = j ∧ j + k = b.length ∧ s.2.2.length = b.length + 1 ∧ s.1 = (dd a b i j : Nat) ∧ (∀ x, x ≤ j → s.2.2.getD x 0 = (dd a b (i + 1) x : Nat)) ∧ ∀ x, j < x → x ≤ b.length → s.2.2.getD x 0 = (dd a b i x : Nat))
    (Q := fun t : List Int => t.length = b.length + 1 ∧ ∀ x, x ≤ b.length → t.getD x 0 = (dd a b (i + 1) x : Nat)) ?_ b.length n _ ⟨0, rfl, by omega, hr, by simp [dd_left], fun x hx => by
      obtain rfl : x = 0 := by omega
      rw [dd_left]; exact h0, fun x h1 h2 => hrow x h1 h2⟩ hn
  rintro k ⟨l, c, r⟩ ⟨j, h1, h2, h3, h4, h5, h6⟩
  dsimp only at h1 h3 h4 h5 h6
  subst h1 h4
  simp only [m_editdist_Distance_L3]
  by_cases hk : k = 0
  · right
    refine ⟨r, by rw [if_neg (by simp; omega)], h3, fun x hx => h5 x (by omega)⟩
  · left
    have hj : j < b.length := by omega
    have e1 : IntKind.i64.wrap ((j : Int) + 1) = ((j + 1 : Nat) : Int) := by rw [w64 (by omega) (by omega)]; omega
    have d1 := dd_le a b (i + j) i j (by omega)
    have d2 := dd_le a b (i + 1 + j) (i + 1) j (by omega)
    have d3 := dd_le a b (i + (j + 1)) i (j + 1) (by omega)
    rw [if_pos (by simp; omega), e1, ix_get 0 hj, Option.bind_some, ix_get (l := r) 0 (show j < r.length by omega), ix_get (l := r) 0 (show j + 1 < r.length by omega), h5 j (by omega), h6 (j + 1) (by omega) (by omega)]
    simp only [Option.bind_some]
    have hv : (if (!decide (a.getD i 0 = b.getD j 0)) = true then some (IntKind.i64.wrap (1 + min (min ((dd a b i j : Nat) : Int) ((dd a b (i + 1) j : Nat) : Int)) ((dd a b i (j + 1) : Nat) : Int))) else some ((dd a b i j : Nat) : Int) : Option Int) = some ((dd a b (i + 1) (j + 1) : Nat) : Int) := by
      rw [dd_step]
      by_cases e : a.getD i 0 = b.getD j 0
      · rw [if_neg (by simp only [e, decide_true, Bool.not_true]; decide), if_pos e]
      · rw [if_pos (by simp only [e, decide_false, Bool.not_false]), if_neg e, w64 (by omega) (by omega)]
        congr 1; omega
    rw [hv, Option.bind_some, setI_some (by omega) (by omega), Option.bind_some]
    refine ⟨_, k - 1, rfl, by omega, j + 1, rfl, by omega, by simpa using h3, rfl, fun x hx => ?_, fun x hx hx2 => ?_⟩
    · show (r.set ((j + 1 : Nat) : Int).toNat _).getD x 0 = _
      rw [Int.toNat_natCast, getD_set _ _ _ _ _ (by omega)]
      split
      · rename_i e; rw [e]
      · exact h5 x (by omega)
    · show (r.set ((j + 1 : Nat) : Int).toNat _).getD x 0 = _
      rw [Int.toNat_natCast, getD_set _ _ _ _ _ (by omega), if_neg (by omega)]
      exact h6 x (by omega) hx2
theorem distance_ok {a b : List Int} (ha : a.length ≤ 1000000000) (hb : b.length ≤ 1000000000) : m_editdist_Distance FU a b = some ((dd a b a.length b.length : Nat) : Int) := by
  unfold m_editdist_Distance
  have e1 : IntKind.i64.wrap ((b.length : Int) + 1) = ((b.length + 1 : Nat) : Int) := by rw [w64 (by omega) (by omega)]; omega
  rw [e1, mkL_some (by omega) (by omega) (by omega), Option.bind_some]
  obtain ⟨r, h1, h2, h3⟩ := dist_L1 (n := FU) (m := b.length) (z := List.replicate ((b.length + 1 : Nat) : Int).toNat 0) (by simp) hb (by simp only [FU]; omega)
  rw [h1, Option.bind_some]
  obtain ⟨t, h4, h5, h6⟩ := iter_inv (σ := Int × List Int) (f := fun s => m_editdist_Distance_L2 FU a b s.1 s.2) (I := fun k s => ∃ i : Nat, s.1 = i ∧ i + k = a.length ∧ s.2.length = b.length + 1 ∧ ∀ x, x ≤ b.length → s.2.getD x 0 = (dd a b i x : Nat))
    (Q := fun t : List Int => t.length = b.length + 1 ∧ ∀ x, x ≤ b.length → t.getD x 0 = (dd a b a.length x : Nat)) (by
    rintro k ⟨c, r⟩ ⟨i, h1, h2, h3, h4⟩
    dsimp only at h1 h3 h4
    subst h1
    simp only [m_editdist_Distance_L2]
    by_cases hk : k = 0
    · right
      have e0 : i = a.length := by omega
      subst e0
      exact ⟨r, by rw [if_neg (by simp)], h3, h4⟩
    · left
      have hi : i < a.length := by omega
      have e1 : IntKind.i64.wrap ((i : Int) + 1) = ((i + 1 : Nat) : Int) := by rw [w64 (by omega) (by omega)]; omega
      have g0 := h4 0 (by omega)
      rw [dd_left] at g0
      have g1 : ix r 0 = some ((i : Nat) : Int) := by rw [← g0]; exact ix_get (l := r) (i := 0) 0 (by omega)
      rw [if_pos (by simp; omega), e1, ix_get 0 hi, Option.bind_some, g1]
      simp only [Option.bind_some]
      rw [setI_some (by omega) (by omega), Option.bind_some]
      obtain ⟨t, q1, q2, q3⟩ := dist_L3 (n := FU) (a := a) (b := b) (i := i) (r := r.set 0 ((i + 1 : Nat) : Int)) (by simpa using h3) hb hi ha (by rw [getD_set _ _ _ _ _ (by omega), if_pos rfl]) (fun x hx hx2 => by
        rw [getD_set _ _ _ _ _ (by omega), if_neg (by omega)]; exact h4 x hx2) (by simp only [FU]; omega)
      have q1' : iter FU (fun s => m_editdist_Distance_L3 FU b (a.getD i 0) s.1 s.2.1 s.2.2) ((i : Int), (0 : Int), r.set (0 : Int).toNat ((i + 1 : Nat) : Int)) = some t := q1
      rw [q1', Option.bind_some]
      exact ⟨_, k - 1, rfl, by omega, i + 1, rfl, by omega, q2, q3⟩) a.length FU ((0 : Int), r) ⟨0, rfl, by omega, h2, fun x hx => by rw [dd_zero]; exact h3 x hx⟩ (by simp only [FU]; omega)
  rw [h4, Option.bind_some, ix_get 0 (by omega), Option.bind_some, Option.bind_some, h6 _ (Nat.le_refl _)]
noncomputable def nr (a b : List UInt8) : Bool := decide (dd (chs a) (chs b) (chs a).length (chs b).length ≤ 2)
theorem near_ok {a b : List UInt8} (ha : a.length ≤ 1000000000) (hb : b.length ≤ 1000000000) : m_match_near FU a b = some (nr a b) := by
  obtain ⟨c1, l1⟩ := chars_ok ha
  obtain ⟨c2, l2⟩ := chars_ok hb
  unfold m_match_near m_editdist_Text nr
  rw [c1, Option.bind_some, c2, Option.bind_some, distance_ok (by omega) (by omega)]
  simp only [Option.bind_some]
  congr 1
  rw [decide_eq_decide]; omega
end
section
open Go
theorem containsI {n : Nat} {l : List Int} {a : Int} (hl : l.length ≤ ML) (hn : l.length < n) : m_slices_Contains_int_int n l a = some (l.any fun y => decide (a = y)) :=
  contains_loop n l (fun y => some (decide (a = y))) (fun y => decide (a = y)) (fun _ _ => rfl) hl hn
theorem containsS {n : Nat} {l : List (List UInt8)} {a : List UInt8} (hl : l.length ≤ ML) (hn : l.length < n) : m_slices_Contains_string_string n l a = some (l.any fun y => decide (a = y)) :=
  contains_loop n l (fun y => some (decide (a = y))) (fun y => decide (a = y)) (fun _ _ => rfl) hl hn
def com {α : Type} [DecidableEq α] (a b : List α) : Bool := a.any fun x => b.any fun y => decide (x = y)
theorem com_iff {α : Type} [DecidableEq α] {a b : List α} : com a b = true ↔ ∃ x, x ∈ a ∧ x ∈ b := by
  unfold com
  simp only [List.any_eq_true, decide_eq_true_eq]
  exact ⟨fun ⟨x, hx, y, hy, e⟩ => ⟨x, hx, e ▸ hy⟩, fun ⟨x, hx, hy⟩ => ⟨x, hx, x, hy, rfl⟩⟩
theorem commonI {n : Nat} {a b : List Int} (ha : a.length ≤ ML) (hb : b.length ≤ ML) (na : a.length < n) (nb : b.length < n) : m_match_common_int n a b = some (com a b) := by
  unfold m_match_common_int
  have e : m_slices_ContainsFunc_int_int n a (fun y1 => m_match_common_int_1 n y1 b) = some (com a b) :=
    contains_loop n a (fun y1 => m_match_common_int_1 n y1 b) (fun x => b.any fun y => decide (x = y)) (fun x _ => by unfold m_match_common_int_1; rw [containsI hb nb]; rfl) ha na
  rw [e]; rfl
theorem commonS {n : Nat} {a b : List (List UInt8)} (ha : a.length ≤ ML) (hb : b.length ≤ ML) (na : a.length < n) (nb : b.length < n) : m_match_common_string n a b = some (com a b) := by
  unfold m_match_common_string
  have e : m_slices_ContainsFunc_string_string n a (fun y1 => m_match_common_string_1 n y1 b) = some (com a b) :=
    contains_loop n a (fun y1 => m_match_common_string_1 n y1 b) (fun x => b.any fun y => decide (x = y)) (fun x _ => by unfold m_match_common_string_1; rw [containsS hb nb]; rfl) ha na
  rw [e]; rfl
def nbr (a b : List Int) : Bool := a.any fun x => b.any (fun y => decide (IntKind.i64.wrap (x - 1) = y)) || b.any (fun y => decide (IntKind.i64.wrap (x + 1) = y))
theorem neighbours_ok {n : Nat} {a b : List Int} (ha : a.length ≤ ML) (hb : b.length ≤ ML) (na : a.length < n) (nb : b.length < n) : m_match_neighbours n a b = some (nbr a b) := by
  unfold m_match_neighbours
  have e : m_slices_ContainsFunc_int_int n a (fun y1 => m_match_neighbours_1 n y1 b) = some (nbr a b) :=
    contains_loop n a (fun y1 => m_match_neighbours_1 n y1 b) (fun x => b.any (fun y => decide (IntKind.i64.wrap (x - 1) = y)) || b.any (fun y => decide (IntKind.i64.wrap (x + 1) = y))) (fun x _ => by
      unfold m_match_neighbours_1
      rw [containsI hb nb, containsI hb nb]
      cases b.any (fun y => decide (IntKind.i64.wrap (x - 1) = y)) <;> simp) ha na
  rw [e]; rfl
theorem nbr_iff {a b : List Int} (h : ∀ x ∈ a, 1000 ≤ x ∧ x ≤ 2999) : nbr a b = true ↔ ∃ x ∈ a, ∃ y ∈ b, x = y + 1 ∨ y = x + 1 := by
  unfold nbr
  simp only [List.any_eq_true, Bool.or_eq_true, decide_eq_true_eq]
  constructor
  · rintro ⟨x, hx, ⟨y, hy, e⟩ | ⟨y, hy, e⟩⟩
    · have := h x hx
      rw [w64 (by omega) (by omega)] at e
      exact ⟨x, hx, y, hy, .inl (by omega)⟩
    · have := h x hx
      rw [w64 (by omega) (by omega)] at e
      exact ⟨x, hx, y, hy, .inr (by omega)⟩
  · rintro ⟨x, hx, y, hy, e | e⟩
    · have := h x hx
      exact ⟨x, hx, .inl ⟨y, hy, by rw [w64 (by omega) (by omega)]; omega⟩⟩
    · have := h x hx
      exact ⟨x, hx, .inr ⟨y, hy, by rw [w64 (by omega) (by omega)]; omega⟩⟩
theorem getD_ext {α : Type} {a b : List α} (d : α) (hl : a.length = b.length) (h : ∀ i, i < a.length → a.getD i d = b.getD i d) : a = b := by
  apply List.ext_getElem hl
  intro i h1 h2
  have := h i h1
  simpa [h1, h2] using this
theorem equalS {n : Nat} {a b : List (List UInt8)} (ha : a.length ≤ ML) (na : a.length < n) : m_slices_Equal_string_string n a b = some (decide (a = b)) := by
  unfold m_slices_Equal_string_string
  by_cases hl : a.length = b.length
  · rw [if_neg (by simp; omega), iter_any (ρ := Bool ⊕ Unit) a.length n (fun i => !decide (a.getD i [] = b.getD i [])) (.inl false) (.inr ()) (fun j hj => by
      unfold m_slices_Equal_string_string_L1
      rw [if_pos (by simp; omega), ix_get [] hj, Option.bind_some, ix_get [] (by omega), Option.bind_some, wadd1 hj ha]
      split <;> rfl) (by unfold m_slices_Equal_string_string_L1; simp) na]
    cases hb : anyN a.length (fun i => !decide (a.getD i [] = b.getD i [])) with
    | true =>
      obtain ⟨i, _, h2⟩ := anyN_t.1 hb
      have : ¬ a = b := by rintro rfl; simp at h2
      simp [this]
    | false =>
      have h := anyN_f.1 hb
      have : a = b := getD_ext [] hl (fun i hi => by have := h i hi; simpa using this)
      simp [this]
  · have : ¬ a = b := by rintro rfl; exact hl rfl
    rw [if_pos (by simp; omega)]; simp [this]
def ver (a b : Bool) : Int := if a = true then 1 else if b = true then 2 else 3
theorem verdict_ok {n : Nat} {a b : Bool} : m_match_verdict n a b = some (ver a b) := by cases a <;> cases b <;> rfl
theorem ver_one {b : Bool} : ver true b = 1 := rfl
theorem ver_range (a b : Bool) : 1 ≤ ver a b ∧ ver a b ≤ 3 := by cases a <;> cases b <;> decide

/-! ### valid records are small -/
structure FV (f : SFeatures) : Prop where
  t : f.fTitle.length ≤ 200
  tw : ∀ w ∈ f.fTitle, w.length ≤ 400
  a : f.fAuthor.length ≤ 420
  y : f.fYears.length ≤ 20
  yr : ∀ x ∈ f.fYears, 1000 ≤ x ∧ x ≤ 2999
  i : f.fIsbns.length ≤ 20
  l : f.fLangs.length ≤ 20
  p : f.fPublisher.length ≤ 200
  e : f.fEdition.length ≤ 200
theorem fv_small {f : SFeatures} (h : fv f = true) : FV f := by
  simp only [fv, Bool.and_eq_true, decide_eq_true_eq, aut] at h
  obtain ⟨⟨⟨⟨⟨⟨⟨⟨⟨⟨_, _⟩, h1⟩, h2⟩, h3⟩, h4⟩, h5⟩, h6⟩, h7⟩, h8⟩, h9⟩ := h
  refine ⟨h1, fun w hw => ?_, h3.1.1, h4, fun x hx => ?_, h6.1.1, h7.1.1, h8.1.1, h9.1.1⟩
  · have := List.all_eq_true.1 h2 w hw
    simp only [wrd, Bool.and_eq_true, decide_eq_true_eq] at this
    exact this.1.2
  · unfold yrs at h5
    rw [Bool.not_eq_true'] at h5
    obtain ⟨i, hi, rfl⟩ := List.getElem_of_mem hx
    have := anyN_f.1 h5 i hi
    simp only [Bool.or_eq_false_iff, Bool.not_eq_false', Bool.and_eq_true, decide_eq_true_eq] at this
    have e : f.fYears.getD i 0 = f.fYears[i] := by simp [hi]
    rw [e] at this
    exact this.1
theorem lens_le {m : Nat} : ∀ {l : List (List UInt8)}, (∀ w ∈ l, w.length ≤ m) → Lib.lens l ≤ l.length * m
  | [], _ => by simp [Lib.lens]
  | x :: l, h => by
    have h1 := h x (List.mem_cons_self ..)
    have h2 := lens_le (m := m) (l := l) (fun w hw => h w (List.mem_cons_of_mem _ hw))
    have h3 : Lib.lens (x :: l) = x.length + Lib.lens l := by simp [Lib.lens]
    rw [h3, List.length_cons, Nat.succ_mul]; omega
def jn (l : List (List UInt8)) : List UInt8 := Lib.join l [32]
theorem jn_len {l : List (List UInt8)} (h : l.length ≤ 200) (hw : ∀ w ∈ l, w.length ≤ 400) : (jn l).length ≤ 100000 := by
  unfold jn
  cases l with
  | nil => simp [Lib.join_nil]
  | cons x r =>
    rw [Lib.join_length]
    have h1 := lens_le hw
    have h2 := Nat.mul_le_mul_right 400 h
    simp only [List.length_cons, List.length_nil] at *
    omega
theorem joinM_ok {l : List (List UInt8)} (h : l.length ≤ 200) (hw : ∀ w ∈ l, w.length ≤ 400) : joinM l [32] = some (jn l) := by
  unfold joinM
  have := jn_len h hw
  unfold jn at *
  rw [if_pos ⟨by omega, by omega⟩]

/-! ### the outcome -/
noncomputable def cT (a b : List (List UInt8)) : Int := if 0 < a.length ∧ 0 < b.length then ver (decide (a = b)) (cw a b || nr (jn a) (jn b)) else 0
noncomputable def cA (a b : List UInt8) : Int := if a ≠ [] ∧ b ≠ [] then ver (decide (a = b)) (nr a b) else 0
def cY (a b : List Int) : Int := if 0 < a.length ∧ 0 < b.length then ver (com a b) (nbr a b) else 0
def cS (a b : List (List UInt8)) : Int := if 0 < a.length ∧ 0 < b.length then ver (com a b) false else 0
def cP (a b : List (List UInt8)) : Int := if 0 < a.length ∧ 0 < b.length then ver (decide (a = b)) (com a b) else 0
def cE (a b : List (List UInt8)) : Int := if 0 < a.length ∧ 0 < b.length then ver (decide (a = b)) false else 0
noncomputable def cmp (f g : SFeatures) : A7 := ⟨cT f.fTitle g.fTitle, cA f.fAuthor g.fAuthor, cY f.fYears g.fYears, cS f.fIsbns g.fIsbns, cS f.fLangs g.fLangs, cP f.fPublisher g.fPublisher, cE f.fEdition g.fEdition⟩
theorem dec_two {a b : Nat} : (decide ((0 : Int) < (a : Int)) && decide ((0 : Int) < (b : Int))) = decide (0 < a ∧ 0 < b) := by
  rw [Bool.eq_iff_iff]; simp only [Bool.and_eq_true, decide_eq_true_eq]; omega
theorem compare_ok {f g : SFeatures} (hf : FOk f) (hg : FOk g) : m_match_Compare FU f g = some (if (fv f && fv g) = true then (cmp f g, 0) else (⟨0, 0, 0, 0, 0, 0, 0⟩, 1)) := by
  have lt : ∀ {k : Nat}, k ≤ ML → k < FU := fun hk => Nat.lt_of_le_of_lt hk (by decide)
  have vf := feature_ok (n := FU) hf (by decide)
  have vg := feature_ok (n := FU) hg (by decide)
  unfold m_match_Compare
  rw [show m_feature_Valid FU (⟨f.fID, f.fTitle, f.fAuthor, f.fYears, f.fIsbns, f.fLangs, f.fPublisher, f.fEdition⟩ : SFeatures) = some (fv f) from vf, show m_feature_Valid FU (⟨g.fID, g.fTitle, g.fAuthor, g.fYears, g.fIsbns, g.fLangs, g.fPublisher, g.fEdition⟩ : SFeatures) = some (fv g) from vg]
  simp only [Option.bind_some]
  cases hvf : fv f with
  | false => simp
  | true =>
    cases hvg : fv g with
    | false => simp
    | true =>
      have F := fv_small hvf
      have G := fv_small hvg
      simp only [Bool.not_true, Bool.not_false, if_true, Option.bind_some, Bool.or_self, Bool.false_eq_true, if_false, Bool.and_self]
      have M3 : ∀ {k : Nat}, k ≤ 1000 → k ≤ ML := fun h => Nat.le_trans h (by decide)
      rw [equalS hf.t.1 (lt hf.t.1), closeWords_cw (by have := F.t; omega) (by have := G.t; omega), joinM_ok F.t F.tw, joinM_ok G.t G.tw, commonI hf.y hg.y (lt hf.y) (lt hg.y), neighbours_ok hf.y hg.y (lt hf.y) (lt hg.y), commonS hf.i.1 hg.i.1 (lt hf.i.1) (lt hg.i.1), commonS hf.l.1 hg.l.1 (lt hf.l.1) (lt hg.l.1), commonS hf.p.1 hg.p.1 (lt hf.p.1) (lt hg.p.1), equalS hf.p.1 (lt hf.p.1), equalS hf.e.1 (lt hf.e.1), near_ok (by have := F.a; omega) (by have := G.a; omega)]
      simp only [Option.bind_some, verdict_ok, dec_two]
      have jf := jn_len F.t F.tw
      have jg := jn_len G.t G.tw
      have hT : (if decide (0 < f.fTitle.length ∧ 0 < g.fTitle.length) = true then
          ((if (!cw f.fTitle g.fTitle) = true then some (jn f.fTitle) else some default : Option (List UInt8))).bind fun v7 => ((if (!cw f.fTitle g.fTitle) = true then some (jn g.fTitle) else some default : Option (List UInt8))).bind fun v8 =>
          ((if (!cw f.fTitle g.fTitle) = true then m_match_near FU v7 v8 else some default)).bind fun v9 => some (⟨ver (decide (f.fTitle = g.fTitle)) (cw f.fTitle g.fTitle || v9), 0, 0, 0, 0, 0, 0⟩ : A7)
          else some (⟨0, 0, 0, 0, 0, 0, 0⟩ : A7) : Option A7) = some ⟨cT f.fTitle g.fTitle, 0, 0, 0, 0, 0, 0⟩ := by
        unfold cT
        by_cases h : 0 < f.fTitle.length ∧ 0 < g.fTitle.length
        · rw [if_pos (decide_eq_true h), if_pos h]
          cases hc : cw f.fTitle g.fTitle with
          | true => rfl
          | false =>
            simp only [Bool.not_false, if_true, Option.bind_some, near_ok (show (jn f.fTitle).length ≤ 1000000000 by omega) (show (jn g.fTitle).length ≤ 1000000000 by omega)]
        · rw [if_neg (by simpa using h), if_neg h]
      rw [hT]
      simp only [Option.bind_some]
      have hA : ∀ x0 : Int, (if (!decide (f.fAuthor = []) && !decide (g.fAuthor = [])) = true then some (⟨x0, ver (decide (f.fAuthor = g.fAuthor)) (nr f.fAuthor g.fAuthor), 0, 0, 0, 0, 0⟩ : A7) else some ⟨x0, 0, 0, 0, 0, 0, 0⟩ : Option A7) = some ⟨x0, cA f.fAuthor g.fAuthor, 0, 0, 0, 0, 0⟩ := by
        intro x0
        unfold cA
        by_cases h : f.fAuthor = []
        · simp [h]
        · by_cases h2 : g.fAuthor = []
          · simp [h2]
          · simp [h, h2]
      rw [hA]
      simp only [Option.bind_some]
      have five : ∀ (c : Prop) [Decidable c] (x : Int) (F : Int → A7), (if decide c = true then some (F x) else some (F 0) : Option A7) = some (F (if c then x else 0)) := by
        intro c _ x F
        by_cases h : c <;> simp [h]
      have hY : ∀ x0 x1 : Int, (if decide (0 < f.fYears.length ∧ 0 < g.fYears.length) = true then some (⟨x0, x1, ver (com f.fYears g.fYears) (nbr f.fYears g.fYears), 0, 0, 0, 0⟩ : A7) else some ⟨x0, x1, 0, 0, 0, 0, 0⟩ : Option A7) = some ⟨x0, x1, cY f.fYears g.fYears, 0, 0, 0, 0⟩ := by
        intro x0 x1
        have q := five (0 < f.fYears.length ∧ 0 < g.fYears.length) (ver (com f.fYears g.fYears) (nbr f.fYears g.fYears)) (fun v => (⟨x0, x1, v, 0, 0, 0, 0⟩ : A7))
        exact q
      rw [hY]
      simp only [Option.bind_some]
      have hI : ∀ x0 x1 x2 : Int, (if decide (0 < f.fIsbns.length ∧ 0 < g.fIsbns.length) = true then some (⟨x0, x1, x2, ver (com f.fIsbns g.fIsbns) false, 0, 0, 0⟩ : A7) else some ⟨x0, x1, x2, 0, 0, 0, 0⟩ : Option A7) = some ⟨x0, x1, x2, cS f.fIsbns g.fIsbns, 0, 0, 0⟩ := by
        intro x0 x1 x2
        have q := five (0 < f.fIsbns.length ∧ 0 < g.fIsbns.length) (ver (com f.fIsbns g.fIsbns) false) (fun v => (⟨x0, x1, x2, v, 0, 0, 0⟩ : A7))
        exact q
      rw [hI]
      simp only [Option.bind_some]
      have hL : ∀ x0 x1 x2 x3 : Int, (if decide (0 < f.fLangs.length ∧ 0 < g.fLangs.length) = true then some (⟨x0, x1, x2, x3, ver (com f.fLangs g.fLangs) false, 0, 0⟩ : A7) else some ⟨x0, x1, x2, x3, 0, 0, 0⟩ : Option A7) = some ⟨x0, x1, x2, x3, cS f.fLangs g.fLangs, 0, 0⟩ := by
        intro x0 x1 x2 x3
        have q := five (0 < f.fLangs.length ∧ 0 < g.fLangs.length) (ver (com f.fLangs g.fLangs) false) (fun v => (⟨x0, x1, x2, x3, v, 0, 0⟩ : A7))
        exact q
      rw [hL]
      simp only [Option.bind_some]
      have hP : ∀ x0 x1 x2 x3 x4 : Int, (if decide (0 < f.fPublisher.length ∧ 0 < g.fPublisher.length) = true then some (⟨x0, x1, x2, x3, x4, ver (decide (f.fPublisher = g.fPublisher)) (com f.fPublisher g.fPublisher), 0⟩ : A7) else some ⟨x0, x1, x2, x3, x4, 0, 0⟩ : Option A7) = some ⟨x0, x1, x2, x3, x4, cP f.fPublisher g.fPublisher, 0⟩ := by
        intro x0 x1 x2 x3 x4
        have q := five (0 < f.fPublisher.length ∧ 0 < g.fPublisher.length) (ver (decide (f.fPublisher = g.fPublisher)) (com f.fPublisher g.fPublisher)) (fun v => (⟨x0, x1, x2, x3, x4, v, 0⟩ : A7))
        exact q
      rw [hP]
      simp only [Option.bind_some]
      have hE : ∀ x0 x1 x2 x3 x4 x5 : Int, (if decide (0 < f.fEdition.length ∧ 0 < g.fEdition.length) = true then some (⟨x0, x1, x2, x3, x4, x5, ver (decide (f.fEdition = g.fEdition)) false⟩ : A7) else some ⟨x0, x1, x2, x3, x4, x5, 0⟩ : Option A7) = some ⟨x0, x1, x2, x3, x4, x5, cE f.fEdition g.fEdition⟩ := by
        intro x0 x1 x2 x3 x4 x5
        have q := five (0 < f.fEdition.length ∧ 0 < g.fEdition.length) (ver (decide (f.fEdition = g.fEdition)) false) (fun v => (⟨x0, x1, x2, x3, x4, x5, v⟩ : A7))
        exact q
      rw [hE]
      simp only [Option.bind_some]
      rfl
/-! ### the example -/
theorem txs_nil : txs [] := ⟨by simp, by simp⟩
theorem compare_faust : m_match_Compare FU ⟨1, [[102, 97, 117, 115, 116]], [103, 111, 101, 116, 104, 101, 47, 47, 47], [], [], [], [], []⟩ ⟨2, [[102, 97, 117, 115, 116]], [103, 111, 101, 116, 104, 101, 47, 47, 47], [], [], [], [], []⟩ = some (⟨1, 1, 0, 0, 0, 0, 0⟩, 0) := by
  have ok : ∀ i : Int, FOk ⟨i, [[102, 97, 117, 115, 116]], [103, 111, 101, 116, 104, 101, 47, 47, 47], [], [], [], [], []⟩ := fun i => ⟨⟨by simp [ML], by simp [ML]⟩, by simp [ML], by simp, txs_nil, txs_nil, txs_nil, txs_nil⟩
  rw [compare_ok (ok 1) (ok 2), if_pos (by decide)]
  simp only [cmp, cT, cA, cY, cS, cP, cE, List.length_cons, List.length_nil, ne_eq, reduceCtorEq, not_false_eq_true, and_self, if_true, decide_true, ver_one, Nat.lt_irrefl, if_false]
  rfl
theorem awake31 : m_law31_awake FU = some true := by
  unfold m_law31_awake
  rw [compare_faust]
  decide +kernel
end
section
open Go
theorem own_ok (m : A72) : m_law31_Own FU m = some m := by
  obtain ⟨⟨⟨a1, a2⟩, ⟨a3, a4⟩, ⟨a5, a6⟩⟩, ⟨⟨b1, b2⟩, ⟨b3, b4⟩, ⟨b5, b6⟩⟩, ⟨⟨c1, c2⟩, ⟨c3, c4⟩, ⟨c5, c6⟩⟩, ⟨⟨d1, d2⟩, ⟨d3, d4⟩, ⟨d5, d6⟩⟩, ⟨⟨e1, e2⟩, ⟨e3, e4⟩, ⟨e5, e6⟩⟩, ⟨⟨f1, f2⟩, ⟨f3, f4⟩, ⟨f5, f6⟩⟩, ⟨⟨g1, g2⟩, ⟨g3, g4⟩, ⟨g5, g6⟩⟩⟩ := m
  kernel_rfl
def mvl (m : A72) : Bool := m.l.all fun r => ovl r.l
theorem valid_ok (m : A72) : m_match_Valid FU m = some (mvl m) := by
  unfold m_match_Valid
  have e : m_slices_ContainsFunc_3_odds_Ratio_3_odds_Ratio FU m.l (fun y1 => m_match_Valid_1 FU y1) = some (m.l.any fun r => !ovl r.l) :=
    contains_loop FU m.l (fun y1 => m_match_Valid_1 FU y1) (fun r => !ovl r.l) (fun r _ => by
      unfold m_match_Valid_1; rw [odds_Valid (l := r.l) (show 3 ≤ ML by decide) (show 3 < FU by decide)]; rfl) (show 7 ≤ ML by decide) (show 7 < FU by decide)
  rw [e, Option.bind_some]
  congr 1
  unfold mvl
  rw [List.all_eq_not_any_not]
theorem ovl_three (r : A3) : ovl r.l = (ovl [r.e0] && ovl [r.e1] && ovl [r.e2]) := by
  simp [ovl, A3.l, Bool.and_assoc]
theorem refvalid_ok (m : A72) : m_ref31_Valid FU m = some (mvl m) := by
  have row : ∀ i : Nat, i < 7 → iter FU (fun s => m_ref31_Valid_L2 FU m i s) (0 : Int) = some (if anyN 3 (fun k => !ovl [(m.l.getD i default).l.getD k default]) = true then .inl false else .inr ()) := by
    intro i hi
    refine iter_any (ρ := Bool ⊕ Unit) 3 FU _ (.inl false) (.inr ()) (fun j hj => ?_) (by unfold m_ref31_Valid_L2; simp) (by decide)
    unfold m_ref31_Valid_L2
    rw [if_pos (by simp; omega), ix_get default (by simpa [A72.l] using hi), Option.bind_some, ix_get default (by simpa [A3.l] using hj), Option.bind_some, ref28_Valid (l := [_]) (show 1 ≤ ML by decide) (show 1 < FU by decide), Option.bind_some, wadd1 hj (by decide)]
    split <;> rfl
  unfold m_ref31_Valid
  rw [iter_any (ρ := Bool ⊕ Unit) 7 FU (fun i => anyN 3 fun k => !ovl [(m.l.getD i default).l.getD k default]) (.inl false) (.inr ()) (fun j hj => by
    unfold m_ref31_Valid_L1
    rw [if_pos (by simp; omega), row j hj, Option.bind_some, wadd1 hj (by decide)]
    cases anyN 3 (fun k => !ovl [(m.l.getD j default).l.getD k default]) <;> rfl) (by unfold m_ref31_Valid_L1; simp) (by decide)]
  have e : mvl m = !anyN 7 (fun i => anyN 3 fun k => !ovl [(m.l.getD i default).l.getD k default]) := by
    have e1 : ∀ i, (anyN 3 fun k => !ovl [(m.l.getD i default).l.getD k default]) = !ovl (m.l.getD i default).l := by
      intro i
      rw [ovl_three]
      generalize m.l.getD i default = r
      simp [anyN, A3.l, List.range_succ, Bool.or_assoc]
    have e2 := anyN_getD m.l default (fun r => !ovl r.l)
    have e3 : m.l.length = 7 := rfl
    rw [e3] at e2
    have e4 : anyN 7 (fun i => anyN 3 fun k => !ovl [(m.l.getD i default).l.getD k default]) = anyN 7 (fun i => !ovl (m.l.getD i default).l) := anyN_congr (fun i _ => e1 i)
    rw [e4, e2]
    unfold mvl
    rw [List.all_eq_not_any_not]
  rw [e]
  cases anyN 7 (fun i => anyN 3 fun k => !ovl [(m.l.getD i default).l.getD k default]) <;> rfl
end
section
open Go
/-- The factors of an outcome. -/
def fz : List A3 → List Int → List SRatio
  | r :: rs, o :: os => (if o = 0 then [] else [r.l.getD (o - 1).toNat default]) ++ fz rs os
  | _, _ => []
theorem fz_len : ∀ (rs : List A3) (os : List Int), (fz rs os).length ≤ rs.length
  | [], _ => by simp [fz]
  | _ :: _, [] => by simp [fz]
  | r :: rs, o :: os => by
    have := fz_len rs os
    simp only [fz, List.length_append, List.length_cons]
    split <;> simp <;> omega
theorem fz_drop {rs : List A3} {os : List Int} {i : Nat} (h1 : i < rs.length) (h2 : i < os.length) : fz (rs.drop i) (os.drop i) = (if os.getD i 0 = 0 then [] else [(rs.getD i default).l.getD (os.getD i 0 - 1).toNat default]) ++ fz (rs.drop (i + 1)) (os.drop (i + 1)) := by
  rw [List.drop_eq_getElem_cons h1, List.drop_eq_getElem_cons h2, fz]
  simp [h1, h2]
def oin (o : A7) : Bool := o.l.all fun x => decide (0 ≤ x) && decide (x ≤ 3)
theorem oin_iff {o : A7} : oin o = true ↔ ∀ x ∈ o.l, 0 ≤ x ∧ x ≤ 3 := by simp [oin]
def fac (m : A72) (o : A7) : List SRatio := fz m.l o.l
theorem fac_len (m : A72) (o : A7) : (fac m o).length ≤ 7 := fz_len m.l o.l
theorem rok_def : ∀ {r : A3}, ovl r.l = true → ∀ x ∈ r.l, rok x = true := by
  intro r h x hx
  simp only [ovl, Bool.and_eq_true] at h
  exact List.all_eq_true.1 h.2 x hx
theorem fz_rok : ∀ {rs : List A3} {os : List Int}, (∀ r ∈ rs, ovl r.l = true) → (∀ x ∈ os, 0 ≤ x ∧ x ≤ 3) → ∀ x ∈ fz rs os, rok x = true
  | [], _, _, _, x, hx => by simp [fz] at hx
  | _ :: _, [], _, _, x, hx => by simp [fz] at hx
  | r :: rs, o :: os, h1, h2, x, hx => by
    simp only [fz, List.mem_append] at hx
    rcases hx with hx | hx
    · split at hx
      · cases hx
      · simp only [List.mem_singleton] at hx
        have ho := h2 o (List.mem_cons_self ..)
        subst hx
        refine rok_def (h1 r (List.mem_cons_self ..)) _ ?_
        have hk : (o - 1).toNat < 3 := by omega
        simp only [List.getD_eq_getElem?_getD]
        rw [List.getElem?_eq_getElem (by simpa [A3.l] using hk)]
        exact List.getElem_mem _
    · exact fz_rok (fun r hr => h1 r (List.mem_cons_of_mem _ hr)) (fun y hy => h2 y (List.mem_cons_of_mem _ hy)) x hx
theorem fac_ovl {m : A72} {o : A7} (hm : mvl m = true) (ho : oin o = true) : ovl (fac m o) = true := by
  have h1 := fac_len m o
  simp only [ovl, Bool.and_eq_true, decide_eq_true_eq]
  exact ⟨by omega, List.all_eq_true.2 (fz_rok (fun r hr => List.all_eq_true.1 hm r hr) (oin_iff.1 ho))⟩
theorem factors_loop {n : Nat} {m : A72} {o : A7} (ho : oin o = true) (hn : 10 < n) : iter n (fun s => m_match_Factors_L1 n m o s.1 s.2) ([], (0 : Int)) = some (fac m o) := by
  have h := oin_iff.1 ho
  obtain ⟨t, h1, h2⟩ := iter_inv (σ := List SRatio × Int) (f := fun s => m_match_Factors_L1 n m o s.1 s.2) (I := fun k s => ∃ i : Nat, s.2 = i ∧ i + k = 7 ∧ s.1.length ≤ i ∧ s.1 ++ fz (m.l.drop i) (o.l.drop i) = fac m o) (Q := fun t : List SRatio => t = fac m o) (by
    rintro k ⟨l, c⟩ ⟨i, h1, h2, h3, h4⟩
    dsimp only at h1 h3 h4
    subst h1
    simp only [m_match_Factors_L1]
    by_cases hk : k = 0
    · right
      have e0 : i = 7 := by omega
      subst e0
      refine ⟨l, by simp, ?_⟩
      rw [List.drop_eq_nil_of_le (by simp [A72.l]), List.drop_eq_nil_of_le (by simp [A7.l])] at h4
      simpa [fz] using h4
    · left
      have hi : i < 7 := by omega
      have ho : i < o.l.length := by simpa [A7.l] using hi
      have hm : i < m.l.length := by simpa [A72.l] using hi
      rw [if_pos (by simp; omega), ix_get 0 ho, Option.bind_some, ix_get default hm, Option.bind_some, wadd1 hi (by decide)]
      rw [fz_drop hm ho] at h4
      have hx := h (o.l.getD i 0) (by simp [ho])
      generalize o.l.getD i 0 = x at *
      by_cases hx0 : x = 0
      · subst hx0
        simp only [if_pos, List.nil_append] at h4
        exact ⟨(l, ((i + 1 : Nat) : Int)), k - 1, by simp, by omega, i + 1, rfl, by omega, by show l.length ≤ i + 1; omega, h4⟩
      · simp only [if_neg hx0] at h4
        rw [if_pos (by simp [hx0]), w64 (by omega) (by omega), ix_int default (by omega) (by show x - 1 < ((3 : Nat) : Int); omega), Option.bind_some, app_one (by omega) (by omega), Option.bind_some, Option.bind_some]
        exact ⟨_, k - 1, rfl, by omega, i + 1, rfl, by omega, by simp; omega, by rw [← h4]; simp⟩) 7 n ([], 0) ⟨0, rfl, rfl, by simp, by simp [fac]⟩ (by omega)
  rw [h1, h2]
theorem factors_ok (m : A72) (o : A7) : m_match_Factors FU m o = some (if (mvl m && oin o) = true then (fac m o, 0) else ([], 1)) := by
  unfold m_match_Factors
  rw [show m_match_Valid FU (⟨(⟨(⟨m.e0.e0.fNum, m.e0.e0.fDen⟩ : SRatio), (⟨m.e0.e1.fNum, m.e0.e1.fDen⟩ : SRatio), (⟨m.e0.e2.fNum, m.e0.e2.fDen⟩ : SRatio)⟩ : A3), (⟨(⟨m.e1.e0.fNum, m.e1.e0.fDen⟩ : SRatio), (⟨m.e1.e1.fNum, m.e1.e1.fDen⟩ : SRatio), (⟨m.e1.e2.fNum, m.e1.e2.fDen⟩ : SRatio)⟩ : A3), (⟨(⟨m.e2.e0.fNum, m.e2.e0.fDen⟩ : SRatio), (⟨m.e2.e1.fNum, m.e2.e1.fDen⟩ : SRatio), (⟨m.e2.e2.fNum, m.e2.e2.fDen⟩ : SRatio)⟩ : A3), (⟨(⟨m.e3.e0.fNum, m.e3.e0.fDen⟩ : SRatio), (⟨m.e3.e1.fNum, m.e3.e1.fDen⟩ : SRatio), (⟨m.e3.e2.fNum, m.e3.e2.fDen⟩ : SRatio)⟩ : A3), (⟨(⟨m.e4.e0.fNum, m.e4.e0.fDen⟩ : SRatio), (⟨m.e4.e1.fNum, m.e4.e1.fDen⟩ : SRatio), (⟨m.e4.e2.fNum, m.e4.e2.fDen⟩ : SRatio)⟩ : A3), (⟨(⟨m.e5.e0.fNum, m.e5.e0.fDen⟩ : SRatio), (⟨m.e5.e1.fNum, m.e5.e1.fDen⟩ : SRatio), (⟨m.e5.e2.fNum, m.e5.e2.fDen⟩ : SRatio)⟩ : A3), (⟨(⟨m.e6.e0.fNum, m.e6.e0.fDen⟩ : SRatio), (⟨m.e6.e1.fNum, m.e6.e1.fDen⟩ : SRatio), (⟨m.e6.e2.fNum, m.e6.e2.fDen⟩ : SRatio)⟩ : A3)⟩ : A72) = some (mvl m) from valid_ok m]
  have e : m_slices_ContainsFunc_int_int FU o.l (fun y1 => m_match_Factors_1 FU y1) = some (!oin o) := by
    have h : m_slices_ContainsFunc_int_int FU o.l (fun y1 => m_match_Factors_1 FU y1) = some (o.l.any fun x => decide (x < 0) || decide (3 < x)) :=
      contains_loop FU o.l (fun y1 => m_match_Factors_1 FU y1) (fun x => decide (x < 0) || decide (3 < x)) (fun x _ => rfl) (show 7 ≤ ML by decide) (show 7 < FU by decide)
    rw [h]
    congr 1
    unfold oin
    rw [List.not_all_eq_any_not]
    congr 1
    funext x
    rw [Bool.eq_iff_iff]; simp <;> omega
  simp only [Option.bind_some]
  cases hm : mvl m with
  | false => simp
  | true =>
    simp only [Bool.not_true, Bool.not_false, if_true, Bool.false_or, Bool.true_and, e, Option.bind_some]
    cases ho : oin o with
    | false => simp
    | true =>
      simp only [Bool.not_true, Bool.false_eq_true, if_false, if_true]
      rw [factors_loop ho (by decide)]; rfl
/-- The weight of a list. -/
noncomputable def wt (l : List SRatio) : Int := ((m_odds_Weight FU l).getD (0, 0)).1
theorem wt_ok {l : List SRatio} (h : ovl l = true) : m_odds_Weight FU l = some (wt l, 0) ∧ isW (pn l ^ 8) (pd l ^ 8) (wt l) ∧ -960 ≤ wt l ∧ wt l ≤ 960 := by
  obtain ⟨w, h1, h2, h3, h4⟩ := odds_Weight h fu4
  unfold wt
  rw [h1]
  exact ⟨rfl, h2, h3, h4⟩
theorem weight_ok (m : A72) (o : A7) : m_match_Weight FU m o = some (if (mvl m && oin o) = true then (wt (fac m o), 0) else (0, 1)) := by
  unfold m_match_Weight
  rw [show m_match_Factors FU (⟨(⟨(⟨m.e0.e0.fNum, m.e0.e0.fDen⟩ : SRatio), (⟨m.e0.e1.fNum, m.e0.e1.fDen⟩ : SRatio), (⟨m.e0.e2.fNum, m.e0.e2.fDen⟩ : SRatio)⟩ : A3), (⟨(⟨m.e1.e0.fNum, m.e1.e0.fDen⟩ : SRatio), (⟨m.e1.e1.fNum, m.e1.e1.fDen⟩ : SRatio), (⟨m.e1.e2.fNum, m.e1.e2.fDen⟩ : SRatio)⟩ : A3), (⟨(⟨m.e2.e0.fNum, m.e2.e0.fDen⟩ : SRatio), (⟨m.e2.e1.fNum, m.e2.e1.fDen⟩ : SRatio), (⟨m.e2.e2.fNum, m.e2.e2.fDen⟩ : SRatio)⟩ : A3), (⟨(⟨m.e3.e0.fNum, m.e3.e0.fDen⟩ : SRatio), (⟨m.e3.e1.fNum, m.e3.e1.fDen⟩ : SRatio), (⟨m.e3.e2.fNum, m.e3.e2.fDen⟩ : SRatio)⟩ : A3), (⟨(⟨m.e4.e0.fNum, m.e4.e0.fDen⟩ : SRatio), (⟨m.e4.e1.fNum, m.e4.e1.fDen⟩ : SRatio), (⟨m.e4.e2.fNum, m.e4.e2.fDen⟩ : SRatio)⟩ : A3), (⟨(⟨m.e5.e0.fNum, m.e5.e0.fDen⟩ : SRatio), (⟨m.e5.e1.fNum, m.e5.e1.fDen⟩ : SRatio), (⟨m.e5.e2.fNum, m.e5.e2.fDen⟩ : SRatio)⟩ : A3), (⟨(⟨m.e6.e0.fNum, m.e6.e0.fDen⟩ : SRatio), (⟨m.e6.e1.fNum, m.e6.e1.fDen⟩ : SRatio), (⟨m.e6.e2.fNum, m.e6.e2.fDen⟩ : SRatio)⟩ : A3)⟩ : A72) (⟨o.e0, o.e1, o.e2, o.e3, o.e4, o.e5, o.e6⟩ : A7) = _ from factors_ok m o, Option.bind_some]
  cases hm : mvl m with
  | false => simp
  | true =>
    cases ho : oin o with
    | false => simp
    | true => simp [(wt_ok (fac_ovl hm ho)).1]

/-! ### sums -/
end
end Go.Proofs.YtgcmhhcopeiomaaGreat.Ab
