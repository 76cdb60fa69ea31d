/- Plain laws, joined. Conditions: none. -/
import Derived.Test.YtkdefjliknpliaaGreatDoorMi
import Derived.Test.YtkdefjliknpliaaGreatDoorPl
import Derived.Laws.RangeAny
import Derived.Test.YtkdefjliknpliaaGreatDoorCp
import Derived.Test.YtkdefjliknpliaaGreatDoorIj
namespace Go.Proofs.YtkdefjliknpliaaGreatDoor.Ab
section
/- When features are valid, in plain Lean. Conditions: none. -/
open Go
theorem bl_tri : ∀ (a b : List UInt8), (Go.Op.bytesLess a b || decide (a = b)) = !Go.Op.bytesLess b a
  | [], [] => rfl
  | [], _ :: _ => rfl
  | _ :: _, [] => rfl
  | x :: a, y :: b => by
    have ih := bl_tri a b
    simp only [Go.Op.bytesLess]
    by_cases h1 : x < y
    · have h2 : ¬ y < x := UInt8.lt_asymm h1
      have h3 : (y == x) = false := by rw [beq_eq_false_iff_ne]; rintro rfl; exact UInt8.lt_irrefl _ h1
      simp [h1, h2, h3]
    · by_cases h2 : y < x
      · have h3 : (x == y) = false := by rw [beq_eq_false_iff_ne]; rintro rfl; exact UInt8.lt_irrefl _ h2
        have h4 : ¬ (x :: a = y :: b) := by intro e; injection e with e; subst e; exact UInt8.lt_irrefl _ h2
        simp [h1, h2, h3, h4]
      · have h3 : x = y := UInt8.le_antisymm (UInt8.not_lt.1 h2) (UInt8.not_lt.1 h1)
        subst h3
        simp only [decide_eq_false h1, Bool.false_or, beq_self_eq_true, Bool.true_and, List.cons.injEq, true_and]
        exact ih
theorem ltS_tri (a b : List UInt8) : (ltS a b || decide (a = b)) = !ltS b a := bl_tri a b
def onl (s : List UInt8) (lo hi : Int) : Bool := s.all fun c => decide (lo ≤ (c.toNat : Int)) && decide ((c.toNat : Int) ≤ hi)
def wrd (s : List UInt8) : Bool := decide (1 ≤ s.length) && decide (s.length ≤ 400) && onl s 33 255
def mde (s : List UInt8) (k : Nat) (lo hi : Int) : Bool := decide (s.length = k) && onl s lo hi
def asc (l : List (List UInt8)) : Bool := !anyN l.length fun i => decide (0 < i) && !ltS (l.getD (i - 1) []) (l.getD i [])
def yrs (l : List Int) : Bool := !anyN l.length fun i => !(decide (1000 ≤ l.getD i 0) && decide (l.getD i 0 ≤ 2999)) || decide (0 < i) && decide (l.getD i 0 ≤ l.getD (i - 1) 0)
def aut (s : List UInt8) : Bool := decide (s.length ≤ 420) && onl s 32 255 && (decide (s = []) || !decide (s.getD 0 0 = 32) && !decide (s.getD (s.length - 1) 0 = 32))
def fv (f : SFeatures) : Bool :=
  decide (1 ≤ f.fID) && decide (f.fID ≤ 1000000000) && decide (f.fTitle.length ≤ 200) && f.fTitle.all wrd && aut f.fAuthor && decide (f.fYears.length ≤ 20) && yrs f.fYears &&
  (decide (f.fIsbns.length ≤ 20) && f.fIsbns.all (mde · 13 48 57) && asc f.fIsbns) && (decide (f.fLangs.length ≤ 20) && f.fLangs.all (mde · 3 97 122) && asc f.fLangs) &&
  (decide (f.fPublisher.length ≤ 200) && f.fPublisher.all wrd && asc f.fPublisher) && (decide (f.fEdition.length ≤ 200) && f.fEdition.all wrd && asc f.fEdition)
def txs (l : List (List UInt8)) : Prop := l.length ≤ ML ∧ ∀ x ∈ l, x.length ≤ ML
structure FOk (f : SFeatures) : Prop where
  t : txs f.fTitle
  a : f.fAuthor.length ≤ ML
  y : f.fYears.length ≤ ML
  i : txs f.fIsbns
  l : txs f.fLangs
  p : txs f.fPublisher
  e : txs f.fEdition
theorem only_ok {n : Nat} {s : List UInt8} {lo hi : Int} (hl : s.length ≤ ML) (hn : s.length < n) : m_feature_only n s lo hi = some (onl s lo hi) := by
  have h : m_slices_ContainsFunc_byte_byte n (byteL s) (fun y1 => m_feature_only_1 n y1 lo hi) = some ((byteL s).any fun c => decide (c < lo) || decide (hi < c)) :=
    contains_loop n (byteL s) (fun y1 => m_feature_only_1 n y1 lo hi) (fun c => decide (c < lo) || decide (hi < c)) (fun x _ => rfl) (by simpa [byteL] using hl) (by simpa [byteL] using hn)
  unfold m_feature_only
  rw [h, Option.bind_some]
  congr 1
  unfold onl byteL
  rw [List.any_map, Bool.eq_iff_iff]
  simp only [Bool.not_eq_true', List.any_eq_false, List.all_eq_true, Function.comp_apply, Bool.or_eq_true, decide_eq_true_eq, Bool.and_eq_true, not_or]
  exact ⟨fun h x hx => by have := h x hx; omega, fun h x hx => by have := h x hx; omega⟩
theorem word_ok {n : Nat} {s : List UInt8} (hl : s.length ≤ ML) (hn : s.length < n) : m_feature_word n s = some (wrd s) := by
  unfold m_feature_word wrd
  rw [only_ok hl hn]
  by_cases h : s = []
  · subst h; simp
  · have h1 : 1 ≤ s.length := List.length_pos_iff.2 h
    by_cases h2 : s.length ≤ 400
    · have h3 : (s.length : Int) ≤ 400 := by omega
      simp [h, h1, h2, h3]
    · have h3 : ¬ (s.length : Int) ≤ 400 := by omega
      simp [h, h1, h2, h3]
theorem isbn_ok {n : Nat} {s : List UInt8} (hl : s.length ≤ ML) (hn : s.length < n) : m_feature_isbn n s = some (mde s 13 48 57) := by
  unfold m_feature_isbn mde
  rw [only_ok hl hn]
  by_cases h : s.length = 13
  · simp [h]
  · have h2 : ¬ (s.length : Int) = 13 := by omega
    simp [h, h2]
theorem lang_ok {n : Nat} {s : List UInt8} (hl : s.length ≤ ML) (hn : s.length < n) : m_feature_lang n s = some (mde s 3 97 122) := by
  unfold m_feature_lang mde
  rw [only_ok hl hn]
  by_cases h : s.length = 3
  · simp [h]
  · have h2 : ¬ (s.length : Int) = 3 := by omega
    simp [h, h2]
theorem wsub1 {j : Nat} (h : 0 < j) (hm : j ≤ ML) : IntKind.i64.wrap ((j : Int) - 1) = ((j - 1 : Nat) : Int) := by
  rw [w64 (by omega) (by simp only [ML] at hm; omega)]; omega
theorem years_ok {n : Nat} {l : List Int} (hl : l.length ≤ ML) (hn : l.length < n) : m_feature_years n l = some (yrs l && decide (l.length ≤ 20)) := by
  unfold m_feature_years
  rw [iter_any (ρ := Bool ⊕ Unit) l.length n (fun i => !(decide (1000 ≤ l.getD i 0) && decide (l.getD i 0 ≤ 2999)) || decide (0 < i) && decide (l.getD i 0 ≤ l.getD (i - 1) 0)) (.inl false) (.inr ())
    (fun j hj => by
      unfold m_feature_years_L1
      simp only [show ((j : Int) < (l.length : Int)) from by omega, decide_true, if_true, ix_get 0 hj, Option.bind_some, wadd1 hj hl]
      generalize hx : l.getD j 0 = x
      by_cases h0 : 0 < j
      · have h1 : l.length ≤ ML := hl
        rw [wsub1 h0 (by omega), ix_get 0 (show j - 1 < l.length by omega)]
        generalize l.getD (j - 1) 0 = y
        by_cases q1 : x < 1000
        · simp [q1, show ¬ 1000 ≤ x by omega]
        · by_cases q2 : 2999 < x
          · simp [q1, q2, show ¬ x ≤ 2999 by omega]
          · simp [q1, q2, h0, show 1000 ≤ x by omega, show x ≤ 2999 by omega]
            split <;> rfl
      · have h00 : ¬ (0 : Int) < (j : Int) := by omega
        by_cases q1 : x < 1000
        · simp [q1, h0, show ¬ 1000 ≤ x by omega]
        · by_cases q2 : 2999 < x
          · simp [q1, q2, h0, show ¬ x ≤ 2999 by omega]
          · simp [q1, q2, h0, show 1000 ≤ x by omega, show x ≤ 2999 by omega])
    (by unfold m_feature_years_L1; simp) hn]
  have h20 : decide ((l.length : Int) ≤ 20) = decide (l.length ≤ 20) := by rw [decide_eq_decide]; omega
  unfold yrs
  rw [h20]
  generalize anyN l.length _ = b
  cases b <;> simp
theorem set_ok {n : Nat} {l : List (List UInt8)} {most : Nat} {p : List UInt8 → Option Bool} {q : List UInt8 → Bool} (hp : ∀ x ∈ l, p x = some (q x)) (hl : l.length ≤ ML) (hn : l.length < n) :
    m_feature_set n l (most : Int) p = some (decide (l.length ≤ most) && l.all q && asc l) := by
  have hmost : decide ((l.length : Int) ≤ (most : Int)) = decide (l.length ≤ most) := by rw [decide_eq_decide]; omega
  unfold m_feature_set
  rw [iter_any (ρ := Bool ⊕ Unit) l.length n (fun i => !q (l.getD i []) || decide (0 < i) && !ltS (l.getD (i - 1) []) (l.getD i [])) (.inl false) (.inr ())
    (fun j hj => by
      unfold m_feature_set_L1
      have hm : l.getD j [] ∈ l := by simp [hj]
      simp only [show ((j : Int) < (l.length : Int)) from by omega, decide_true, if_true, ix_get [] hj, Option.bind_some, wadd1 hj hl, hp _ hm]
      generalize hx : l.getD j [] = x
      cases hq : q x
      · simp
      · by_cases h0 : 0 < j
        · rw [wsub1 h0 (by omega), ix_get [] (show j - 1 < l.length by omega)]
          generalize l.getD (j - 1) [] = y
          simp [h0, ltS_tri]
          split <;> rfl
        · have h00 : ¬ (0 : Int) < (j : Int) := by omega
          simp [h0])
    (by unfold m_feature_set_L1; simp) hn]
  have e : anyN l.length (fun i => !q (l.getD i []) || decide (0 < i) && !ltS (l.getD (i - 1) []) (l.getD i [])) = !(l.all q && asc l) := by
    unfold asc
    rw [Bool.eq_iff_iff, anyN_t]
    simp only [Bool.or_eq_true, Bool.not_eq_true', Bool.and_eq_false_iff, List.all_eq_false, Bool.not_eq_false', anyN_t]
    constructor
    · rintro ⟨i, hi, h | h⟩
      · exact .inl ⟨_, List.getElem_mem hi, by simpa [hi] using h⟩
      · exact .inr ⟨i, hi, by simpa using h⟩
    · rintro (⟨x, hx, h⟩ | ⟨i, hi, h⟩)
      · obtain ⟨i, hi, rfl⟩ := List.getElem_of_mem hx
        exact ⟨i, hi, .inl (by simpa [hi] using h)⟩
      · exact ⟨i, hi, .inr (by simpa using h)⟩
  rw [e, hmost, Bool.and_assoc]
  generalize (l.all q && asc l) = b
  cases b <;> simp
theorem aut_last {s : List UInt8} (h : s ≠ []) (hl : s.length ≤ ML) : ixS s (IntKind.i64.wrap ((s.length : Int) - 1)) = some ((s.getD (s.length - 1) 0).toNat : Int) := by
  have h1 := List.length_pos_iff.2 h
  rw [wsub1 h1 hl, ixS_get (by omega)]
theorem u8_32 {c : UInt8} : ((c.toNat : Int) = 32) ↔ c = 32 := by
  constructor
  · intro h; apply UInt8.toNat_inj.1; simp; omega
  · rintro rfl; rfl
theorem feature_ok {n : Nat} {f : SFeatures} (h : FOk f) (hn : ML < n) : m_feature_Valid n f = some (fv f) := by
  have lt : ∀ {k : Nat}, k ≤ ML → k < n := fun hk => by omega
  have hs : ∀ (l : List (List UInt8)) (most : Nat) (p : List UInt8 → Option Bool) (q : List UInt8 → Bool), txs l → (∀ x : List UInt8, x.length ≤ ML → p x = some (q x)) → m_feature_set n l (most : Int) p = some (decide (l.length ≤ most) && l.all q && asc l) :=
    fun l most p q hl hp => set_ok (fun x hx => hp x (hl.2 x hx)) hl.1 (lt hl.1)
  have e1 := hs f.fIsbns 20 (fun y1 => m_feature_isbn n y1) (mde · 13 48 57) h.i (fun x hx => isbn_ok hx (lt hx))
  have e2 := hs f.fLangs 20 (fun y1 => m_feature_lang n y1) (mde · 3 97 122) h.l (fun x hx => lang_ok hx (lt hx))
  have e3 := hs f.fPublisher 200 (fun y1 => m_feature_word n y1) wrd h.p (fun x hx => word_ok hx (lt hx))
  have e4 := hs f.fEdition 200 (fun y1 => m_feature_word n y1) wrd h.e (fun x hx => word_ok hx (lt hx))
  have e5 : m_slices_ContainsFunc_string_string n f.fTitle (fun y1 => m_feature_Valid_1 n y1) = some (f.fTitle.any fun x => !wrd x) :=
    contains_loop n f.fTitle (fun y1 => m_feature_Valid_1 n y1) (fun x => !wrd x) (fun x hx => by
      unfold m_feature_Valid_1; rw [word_ok (h.t.2 x hx) (lt (h.t.2 x hx))]; rfl) h.t.1 (lt h.t.1)
  unfold m_feature_Valid
  rw [only_ok h.a (lt h.a), e5, years_ok h.y (lt h.y)]
  have e1 : m_feature_set n f.fIsbns (20 : Int) (fun y1 => m_feature_isbn n y1) = _ := e1
  have e2 : m_feature_set n f.fLangs (20 : Int) (fun y1 => m_feature_lang n y1) = _ := e2
  have e3 : m_feature_set n f.fPublisher (200 : Int) (fun y1 => m_feature_word n y1) = _ := e3
  have e4 : m_feature_set n f.fEdition (200 : Int) (fun y1 => m_feature_word n y1) = _ := e4
  rw [e1, e2, e3, e4]
  have ha : (f.fTitle.any fun x => !wrd x) = !f.fTitle.all wrd := by
    rw [Bool.eq_iff_iff]; simp
  have c1 : decide (f.fID < 1) = !decide (1 ≤ f.fID) := by rw [← decide_not, decide_eq_decide]; omega
  have c2 : decide (1000000000 < f.fID) = !decide (f.fID ≤ 1000000000) := by rw [← decide_not, decide_eq_decide]; omega
  have c3 : decide ((200 : Int) < (f.fTitle.length : Int)) = !decide (f.fTitle.length ≤ 200) := by rw [← decide_not, decide_eq_decide]; omega
  have c4 : decide ((420 : Int) < (f.fAuthor.length : Int)) = !decide (f.fAuthor.length ≤ 420) := by rw [← decide_not, decide_eq_decide]; omega
  rw [ha, c1, c2, c3, c4]
  unfold fv aut
  generalize (decide (f.fIsbns.length ≤ 20) && f.fIsbns.all (mde · 13 48 57) && asc f.fIsbns) = b3
  generalize (decide (f.fLangs.length ≤ 20) && f.fLangs.all (mde · 3 97 122) && asc f.fLangs) = b4
  generalize (decide (f.fPublisher.length ≤ 200) && f.fPublisher.all wrd && asc f.fPublisher) = b5
  generalize (decide (f.fEdition.length ≤ 200) && f.fEdition.all wrd && asc f.fEdition) = b6
  generalize f.fTitle.all wrd = b1
  generalize yrs f.fYears = b2
  generalize decide (f.fYears.length ≤ 20) = b20
  generalize onl f.fAuthor 32 255 = b7
  generalize decide (1 ≤ f.fID) = d1
  generalize decide (f.fID ≤ 1000000000) = d2
  generalize decide (f.fTitle.length ≤ 200) = d3
  generalize decide (f.fAuthor.length ≤ 420) = d4
  have tail : ∀ X : Option Bool, (some (b2 && b20)).bind (fun v6 => ((if v6 = true then some b3 else some default) : Option Bool).bind fun v7 => ((if (v6 && v7) = true then some b4 else some default) : Option Bool).bind fun v8 =>
      ((if ((v6 && v7) && v8) = true then some b5 else some default) : Option Bool).bind fun v9 => ((if (((v6 && v7) && v8) && v9) = true then some b6 else some default) : Option Bool).bind fun v10 => some ((((v6 && v7) && v8) && v9) && v10)) =
      some (b20 && b2 && b3 && b4 && b5 && b6) := by
    intro _
    cases b2 <;> cases b20 <;> cases b3 <;> cases b4 <;> cases b5 <;> cases b6 <;> rfl
  rw [tail none]
  by_cases h5 : f.fAuthor = []
  · cases d1 <;> cases d2 <;> cases d3 <;> cases d4 <;> cases b7 <;> cases b1 <;> simp [h5]
  · have h6 := List.length_pos_iff.2 h5
    have g0 : ixS f.fAuthor 0 = some ((f.fAuthor.getD 0 0).toNat : Int) := ixS_get (i := 0) h6
    have q1 : decide (((f.fAuthor.getD 0 0).toNat : Int) = 32) = decide (f.fAuthor.getD 0 0 = 32) := by rw [decide_eq_decide]; exact u8_32
    have q2 : decide (((f.fAuthor.getD (f.fAuthor.length - 1) 0).toNat : Int) = 32) = decide (f.fAuthor.getD (f.fAuthor.length - 1) 0 = 32) := by rw [decide_eq_decide]; exact u8_32
    rw [g0, aut_last h5 h.a, decide_eq_false h5]
    simp only [Bool.not_false, if_true, Option.bind_some, Bool.true_and, q1, Bool.false_or]
    generalize decide (f.fAuthor.getD 0 0 = 32) = k1
    cases k1
    · simp only [Bool.not_false, if_true, Option.bind_some, Bool.false_or, q2]
      generalize decide (f.fAuthor.getD (f.fAuthor.length - 1) 0 = 32) = k2
      cases d1 <;> cases d2 <;> cases d3 <;> cases d4 <;> cases b7 <;> cases b1 <;> cases k2 <;> simp
    · cases d1 <;> cases d2 <;> cases d3 <;> cases d4 <;> cases b7 <;> cases b1 <;> simp
end
section
/- The parts of a comparison, in plain Lean. Conditions: none. -/
open Go
theorem mfind_noneK {κ ν : Type} [DecidableEq κ] {k : κ} : ∀ {m : List (κ × ν)}, mfind m k = none ↔ k ∉ m.map (·.1)
  | [] => by simp [mfind]
  | x :: m => by
    unfold mfind
    by_cases h : k = x.1
    · simp [h]
    · simp [h, mfind_noneK (m := m)]
theorem mput_keys {κ ν : Type} [DecidableEq κ] {k : κ} {v : ν} {m : List (κ × ν)} : (mput m k v).map (·.1) = if k ∈ m.map (·.1) then m.map (·.1) else m.map (·.1) ++ [k] := by
  unfold mput
  cases h : mfind m k with
  | none => rw [if_neg (mfind_noneK.1 h)]; simp
  | some j =>
    obtain ⟨x, h1, h2⟩ := mfind_lt h
    have hm : k ∈ m.map (·.1) := by
      subst h2
      exact List.mem_map.2 ⟨x, List.mem_of_getElem? h1, rfl⟩
    rw [if_pos hm]
    simp only [List.map_set]
    subst h2
    apply List.ext_getElem? 
    intro i
    rw [List.getElem?_set]
    by_cases hij : j = i
    · subst hij
      have hlt := (List.getElem?_eq_some_iff.1 h1).1
      rw [if_pos rfl, if_pos (by simpa using hlt), List.getElem?_map, h1]; rfl
    · simp [hij]
theorem mget_mem {κ ν : Type} [DecidableEq κ] {k : κ} {v : ν} {m : List (κ × ν)} (h : mget m k = some v) : (k, v) ∈ m := by
  unfold mget at h
  rw [Option.bind_eq_some_iff] at h
  obtain ⟨j, h1, h2⟩ := h
  obtain ⟨x, h3, rfl⟩ := mfind_lt h1
  rw [h3] at h2
  simp at h2; subst h2
  exact List.mem_of_getElem? h3
theorem mget_none {κ ν : Type} [DecidableEq κ] {k : κ} {m : List (κ × ν)} : mget m k = none ↔ k ∉ m.map (·.1) := by
  constructor
  · intro h hk
    cases hf : mfind m k with
    | none => exact mfind_noneK.1 hf hk
    | some j =>
      obtain ⟨x, h1, _⟩ := mfind_lt hf
      simp [mget, hf, h1] at h
  · intro h
    simp [mget, mfind_noneK.2 h]
theorem nodup_put {κ ν : Type} [DecidableEq κ] {k : κ} {v : ν} {m : List (κ × ν)} (hn : (m.map (·.1)).Nodup) : ((mput m k v).map (·.1)).Nodup := by
  rw [mput_keys]
  split
  · exact hn
  · rename_i h
    rw [List.nodup_append]
    exact ⟨hn, by simp, fun a ha b hb => by simp at hb; subst hb; rintro rfl; exact h ha⟩
theorem perm_of_same {α : Type} [DecidableEq α] : ∀ {l m : List α}, l.Nodup → m.Nodup → (∀ x, x ∈ l ↔ x ∈ m) → l.Perm m
  | [], m, _, _, h => by
    cases m with
    | nil => exact .refl _
    | cons y m => exact absurd ((h y).2 (List.mem_cons_self ..)) (by simp)
  | x :: l, m, hl, hm, h => by
    have hx : x ∈ m := (h x).1 (List.mem_cons_self ..)
    have p := List.perm_cons_erase hx
    rw [List.nodup_cons] at hl
    refine .trans (.cons x (perm_of_same hl.2 (hm.erase x) fun y => ?_)) p.symm
    rw [hm.mem_erase_iff]
    constructor
    · intro hy; exact ⟨fun e => hl.1 (e ▸ hy), (h y).1 (List.mem_cons_of_mem _ hy)⟩
    · rintro ⟨h1, h2⟩
      rcases List.mem_cons.1 ((h y).2 h2) with rfl | h3
      · exact absurd rfl h1
      · exact h3
end
section
/- Texts and lists in order. Conditions: none. -/
open Go
theorem ixL {α : Type} {l : List α} {j : Nat} (h : j < l.length) : ix l (j : Int) = some l[j] := by simp [ix, h]
theorem take_snocL {α : Type} {l : List α} {j : Nat} (h : j < l.length) : l.take (j + 1) = l.take j ++ [l[j]] := by
  rw [List.take_add_one]; simp [h]
theorem ltS_str : ∀ (a b : List UInt8), ltS a b = decide (a < b)
  | [], [] => by simp [ltS, Go.Op.bytesLess]
  | [], _ :: _ => by simp [ltS, Go.Op.bytesLess]
  | _ :: _, [] => by simp [ltS, Go.Op.bytesLess]
  | x :: a, y :: b => by
    have ih := ltS_str a b
    have e : ltS (x :: a) (y :: b) = (decide (x < y) || (decide (x = y) && ltS a b)) := by
      simp only [ltS, Go.Op.bytesLess]
      by_cases h1 : x < y
      · simp [h1]
      · by_cases h2 : y < x
        · have : ¬ x = y := fun e => by subst e; exact h1 h2
          simp [h1, this]
        · have : x = y := by
            apply UInt8.toNat_inj.1
            have h1' : ¬ x.toNat < y.toNat := fun h => h1 (UInt8.lt_iff_toNat_lt.2 h)
            have h2' : ¬ y.toNat < x.toNat := fun h => h2 (UInt8.lt_iff_toNat_lt.2 h)
            omega
          simp [this]
    rw [e, ih, Bool.eq_iff_iff]
    simp [List.cons_lt_cons_iff]
abbrev AscS (l : List (List UInt8)) : Prop := l.Pairwise (· < ·)
theorem ltT {a b : List UInt8} (h : a < b) (h2 : b < a) : False := List.lt_irrefl a (List.lt_trans h h2)
theorem ascS_ext {l k : List (List UInt8)} (h1 : AscS l) (h2 : AscS k) (h : ∀ y, y ∈ l ↔ y ∈ k) : l = k := asc_ext (lt := fun a b : List UInt8 => a < b) (fun {x} => List.lt_irrefl x) (fun h h' => List.lt_trans h h') h1 h2 h
abbrev AscI (l : List Int) : Prop := l.Pairwise (· < ·)
theorem ascI_ext {l k : List Int} (h1 : AscI l) (h2 : AscI k) (h : ∀ y, y ∈ l ↔ y ∈ k) : l = k := asc_ext (lt := fun a b : Int => a < b) (by omega) (fun h h' => by omega) h1 h2 h
abbrev ltP (x y : SPair) : Prop := x.fA < y.fA ∨ (x.fA = y.fA ∧ x.fB < y.fB)
abbrev AscP (l : List SPair) : Prop := l.Pairwise ltP
theorem asc_nodup {α : Type} {lt : α → α → Prop} (hi : ∀ a, ¬ lt a a) {l : List α} (h : l.Pairwise lt) : l.Nodup := h.imp (fun hab e => by subst e; exact hi _ hab)
theorem sorted_int (l : List Int) : AscI (cmpct (isort intLt l)) := by
  have : (isort intLt l).Pairwise (fun a b => ¬ b < a) := (isort_sorted intLt_swo l).imp (fun {a b} h => by simpa [intLt] using h)
  exact cmpct_asc (lt := fun a b : Int => a < b) (by omega) (by omega) this
theorem sorted_int_mem {l : List Int} {y : Int} : y ∈ cmpct (isort intLt l) ↔ y ∈ l := by rw [cmpct_mem, (isort_perm _ _).mem_iff]
theorem sorted_pair (l : List SPair) : AscP (cmpct (isort (ltOf cfP) l)) := by
  have : (isort (ltOf cfP) l).Pairwise (fun a b => ¬ ltP b a) := (isort_sorted cfP_swo l).imp (fun {a b} h => by simp only [cfP_lt, Bool.not_eq_true', decide_eq_false_iff_not] at h; exact h)
  refine cmpct_asc (lt := ltP) (by unfold ltP; omega) (fun x y h => ?_) this
  obtain ⟨a, b⟩ := x
  obtain ⟨c, d⟩ := y
  simp only [ltP, SPair.mk.injEq] at *
  omega
theorem sorted_pair_mem {l : List SPair} {y : SPair} : y ∈ cmpct (isort (ltOf cfP) l) ↔ y ∈ l := by rw [cmpct_mem, (isort_perm _ _).mem_iff]
theorem sorted_str {l : List (List UInt8)} (h : l.Nodup) : AscS (isort strLt l) := by
  have h1 : (isort strLt l).Pairwise (fun a b => ¬ b < a) := (isort_sorted strLt_swo l).imp (fun {a b} h => by simpa [strLt] using h)
  have h2 : (isort strLt l).Nodup := (isort_perm strLt l).nodup_iff.2 h
  refine (List.Pairwise.and h1 h2).imp (fun {a b} hab => ?_)
  have h3 : a ≤ b := by simpa using hab.1
  rcases List.le_iff_lt_or_eq.1 h3 with h4 | h4
  · exact h4
  · exact absurd h4 hab.2
theorem compact_int {n : Nat} {c : List Int} (h : c.length ≤ 1000000000) (hn : 10000000000 < n) : m_slices_Compact_int_int n c = some (cmpct c) := by
  have h2 : ∀ s2, m_slices_Compact_int_int_L1 n c s2 = cpL1 n 0 c s2 := fun s2 => by
    unfold m_slices_Compact_int_int_L1 cpL1; rfl
  have : m_slices_Compact_int_int n c = cpM n 0 c := by
    unfold m_slices_Compact_int_int cpM
    simp only [h2]
    cases iter n (fun s => cpL1 n 0 c s) 1 with
    | none => rfl
    | some r => cases r <;> rfl
  rw [this, cpM_eq (by simp only [ML]; omega) (by omega)]
theorem compact_pair {n : Nat} {c : List SPair} (h : c.length ≤ 1000000000) (hn : 10000000000 < n) : m_slices_Compact_api_Pair_api_Pair n c = some (cmpct c) := by
  have h2 : ∀ s2, m_slices_Compact_api_Pair_api_Pair_L1 n c s2 = cpL1 n ⟨0, 0⟩ c s2 := fun s2 => by
    unfold m_slices_Compact_api_Pair_api_Pair_L1 cpL1; rfl
  have : m_slices_Compact_api_Pair_api_Pair n c = cpM n ⟨0, 0⟩ c := by
    unfold m_slices_Compact_api_Pair_api_Pair cpM
    simp only [h2]
    cases iter n (fun s => cpL1 n ⟨0, 0⟩ c s) 1 with
    | none => rfl
    | some r => cases r <;> rfl
  rw [this, cpM_eq (by simp only [ML]; omega) (by omega)]
theorem split_lt {α : Type} (p : α → Bool) (l : List α) : ∃ a b, l = a ++ b ∧ (∀ y ∈ a, p y = true) ∧ ∀ y b', b = y :: b' → p y = false := by
  refine ⟨l.takeWhile p, l.dropWhile p, List.takeWhile_append_dropWhile.symm, fun y hy => List.all_eq_true.1 (List.all_takeWhile (p := p) (l := l)) y hy, fun y b' e => ?_⟩
  have := List.head?_dropWhile_not p l
  rw [e] at this
  simpa using this
theorem slc_split {α : Type} {a b : List α} : slc (a ++ b) 0 (a.length : Int) = some a ∧ slc (a ++ b) (a.length : Int) ((a ++ b).length : Int) = some b := by
  constructor
  · unfold slc; rw [if_pos (by rw [List.length_append]; omega)]; simp
  · unfold slc; rw [if_pos (by rw [List.length_append]; omega), Int.toNat_natCast, Int.toNat_natCast, List.take_length]; simp
end
section
/- What the reference says of records, in plain Lean. Conditions: none. -/
open Go
theorem anyB {s : List UInt8} {p : Int → Bool} : anyN s.length (fun i => p ((s.getD i 0).toNat : Int)) = s.any fun c => p (c.toNat : Int) := anyN_getD s 0 (fun c => p (c.toNat : Int))
theorem made_ok {n : Nat} {s : List UInt8} {k : Nat} {lo hi : Int} (hl : s.length ≤ ML) (hn : s.length < n) : m_ref29_made n s (k : Int) lo hi = some (mde s k lo hi) := by
  unfold m_ref29_made
  rw [iter_any (ρ := Bool ⊕ Unit) s.length n (fun i => (fun c : Int => decide (c < lo) || decide (hi < c)) ((s.getD i 0).toNat : Int)) (.inl false) (.inr ()) (fun j hj => by
    unfold m_ref29_made_L1
    rw [if_pos (by simp; omega), ixS_get hj, wadd1 hj hl]
    generalize ((s.getD j 0).toNat : Int) = c
    simp only [Option.bind_some]
    by_cases h : c < lo
    · simp [h]
    · by_cases h2 : hi < c <;> simp [h, h2]) (by unfold m_ref29_made_L1; simp) hn]
  have e : anyN s.length (fun i => (fun c : Int => decide (c < lo) || decide (hi < c)) ((s.getD i 0).toNat : Int)) = !onl s lo hi := by
    have := anyB (s := s) (p := fun c : Int => decide (c < lo) || decide (hi < c))
    rw [this]
    unfold onl
    rw [List.not_all_eq_any_not]
    congr 1
    funext c
    rw [Bool.eq_iff_iff]; simp <;> omega
  rw [e]
  unfold mde
  have e2 : decide ((s.length : Int) = (k : Int)) = decide (s.length = k) := by rw [decide_eq_decide]; omega
  rw [← e2]
  cases onl s lo hi <;> simp
theorem rword_ok {n : Nat} {s : List UInt8} (hl : s.length ≤ ML) (hn : s.length < n) : m_ref29_word n s = some (wrd s) := by
  unfold m_ref29_word
  rw [iter_any (ρ := Bool ⊕ Unit) s.length n (fun i => (fun c : Int => decide (c ≤ 32)) ((s.getD i 0).toNat : Int)) (.inl false) (.inr ()) (fun j hj => by
    unfold m_ref29_word_L1
    rw [if_pos (by simp; omega), ixS_get hj, wadd1 hj hl, Option.bind_some]
    split <;> rfl) (by unfold m_ref29_word_L1; simp) hn]
  have e : anyN s.length (fun i => (fun c : Int => decide (c ≤ 32)) ((s.getD i 0).toNat : Int)) = !onl s 33 255 := by
    have := anyB (s := s) (p := fun c : Int => decide (c ≤ 32))
    rw [this]
    unfold onl
    rw [List.not_all_eq_any_not]
    congr 1
    funext c
    have := c.toNat_lt
    rw [Bool.eq_iff_iff]; simp <;> omega
  rw [e]
  unfold wrd
  have e1 : decide ((1 : Int) ≤ (s.length : Int)) = decide (1 ≤ s.length) := by rw [decide_eq_decide]; omega
  have e2 : decide ((s.length : Int) ≤ 400) = decide (s.length ≤ 400) := by rw [decide_eq_decide]; omega
  rw [e1, e2]
  cases onl s 33 255 <;> simp
theorem words_ok {l : List (List UInt8)} (h : txs l) : m_ref29_Words FU l = some (decide (l.length ≤ 200) && l.all wrd) := by
  have lt : ∀ {k : Nat}, k ≤ ML → k < FU := fun hk => Nat.lt_of_le_of_lt hk (by decide)
  unfold m_ref29_Words
  rw [iter_any (ρ := Bool ⊕ Unit) l.length FU (fun i => !wrd (l.getD i [])) (.inl false) (.inr ()) (fun j hj => by
    unfold m_ref29_Words_L1
    have hm : l.getD j [] ∈ l := by simp [hj]
    rw [if_pos (by simp; omega), ix_get [] hj, Option.bind_some, rword_ok (h.2 _ hm) (lt (h.2 _ hm)), wadd1 hj h.1, Option.bind_some]
    split <;> rfl) (by unfold m_ref29_Words_L1; simp) (lt h.1)]
  rw [anyN_getD l [] (fun x => !wrd x), ← List.not_all_eq_any_not]
  have e2 : decide ((l.length : Int) ≤ 200) = decide (l.length ≤ 200) := by rw [decide_eq_decide]; omega
  rw [← e2]
  cases l.all wrd <;> simp
theorem key_ok {s : List UInt8} (hl : s.length ≤ ML) : m_ref29_key FU s = some (aut s) := by
  have lt : ∀ {k : Nat}, k ≤ ML → k < FU := fun hk => Nat.lt_of_le_of_lt hk (by decide)
  unfold m_ref29_key
  rw [iter_any (ρ := Bool ⊕ Unit) s.length FU (fun i => (fun c : Int => decide (c < 32)) ((s.getD i 0).toNat : Int)) (.inl false) (.inr ()) (fun j hj => by
    unfold m_ref29_key_L1
    rw [if_pos (by simp; omega), ixS_get hj, wadd1 hj hl, Option.bind_some]
    split <;> rfl) (by unfold m_ref29_key_L1; simp) (lt hl)]
  have e : anyN s.length (fun i => (fun c : Int => decide (c < 32)) ((s.getD i 0).toNat : Int)) = !onl s 32 255 := by
    have := anyB (s := s) (p := fun c : Int => decide (c < 32))
    rw [this]
    unfold onl
    rw [List.not_all_eq_any_not]
    congr 1
    funext c
    have := c.toNat_lt
    rw [Bool.eq_iff_iff]; simp <;> omega
  rw [e]
  unfold aut
  have e2 : decide ((s.length : Int) ≤ 420) = decide (s.length ≤ 420) := by rw [decide_eq_decide]; omega
  rw [e2]
  cases onl s 32 255 with
  | false => simp
  | true =>
    simp only [Bool.not_true, Bool.false_eq_true, if_false, Option.bind_some, Bool.and_true]
    by_cases h5 : s = []
    · subst h5; simp
    · have h6 := List.length_pos_iff.2 h5
      have g0 : ixS s 0 = some ((s.getD 0 0).toNat : Int) := ixS_get (i := 0) h6
      have q1 : decide (((s.getD 0 0).toNat : Int) = 32) = decide (s.getD 0 0 = 32) := by rw [decide_eq_decide]; exact u8_32
      have q2 : decide (((s.getD (s.length - 1) 0).toNat : Int) = 32) = decide (s.getD (s.length - 1) 0 = 32) := by rw [decide_eq_decide]; exact u8_32
      rw [g0, aut_last h5 hl, decide_eq_false h5]
      cases decide (s.length ≤ 420) with
      | false => simp
      | true =>
        simp only [Bool.not_false, Bool.and_self, if_true, Option.bind_some, Bool.true_and, q1, Bool.false_or]
        generalize decide (s.getD 0 0 = 32) = k1
        cases k1
        · simp only [Bool.not_false, if_true, Option.bind_some, q2]
        · simp
theorem asc_ok {l : List (List UInt8)} (hl : l.length ≤ ML) : m_ref29_Ascending FU l = some (asc l) := by
  unfold m_ref29_Ascending
  have he : m_ref29_Ascending_L1 FU l (l.length : Int) = some (.inr (.inr ())) := by unfold m_ref29_Ascending_L1; simp
  cases hc : l with
  | nil => decide +kernel
  | cons x r =>
    rw [← hc]
    have h1 : 1 ≤ l.length := by rw [hc]; simp
    have key := iter_scan (ρ := Bool ⊕ Unit) (f := fun s => if s = 0 then some (.inl 1) else m_ref29_Ascending_L1 FU l s) l.length (fun i => decide (0 < i) && !ltS (l.getD (i - 1) []) (l.getD i [])) (fun _ => .inl false) (.inr ()) (l.length - 1) 1 FU 1 (by omega) (fun j hj => by
      by_cases h0 : j = 0
      · subst h0; simp
      · have h0' : 0 < j := by omega
        rw [if_neg (by omega)]
        unfold m_ref29_Ascending_L1
        rw [if_pos (by simp; omega), wsub1 h0' (by omega), ix_get [] (by omega), Option.bind_some, ix_get [] hj, Option.bind_some, wadd1 hj hl]
        simp only [h0', decide_true, Bool.true_and]
        split <;> rfl) (by rw [if_neg (by omega)]; exact he) (by simp only [FU, ML] at *; omega) rfl
    have same : ∀ (n : Nat) (s : Int), 0 < s → s ≤ l.length → iter n (fun s => if s = 0 then some (.inl 1) else m_ref29_Ascending_L1 FU l s) s = iter n (fun s => m_ref29_Ascending_L1 FU l s) s := by
      intro n
      induction n with
      | zero => intro s _ _; rfl
      | succ n ih =>
        intro s h0 h2
        rw [iter, iter, if_neg (by omega)]
        unfold m_ref29_Ascending_L1
        by_cases hlt : s < l.length
        · rw [if_pos (by simpa using hlt), ix_int [] (show 0 ≤ IntKind.i64.wrap (s - 1) by rw [w64 (by omega) (by simp only [ML] at hl; omega)]; omega) (by rw [w64 (by omega) (by simp only [ML] at hl; omega)]; omega), Option.bind_some, ix_int [] (by omega) hlt, Option.bind_some]
          split
          · rfl
          · simp only [Option.bind_some]
            rw [w64 (by omega) (by simp only [ML] at hl; omega)]
            exact ih (s + 1) (by omega) (by omega)
        · rw [if_neg (by simpa using hlt)]
          rfl
    rw [same FU 1 (by omega) (by omega)] at key
    unfold asc
    rcases key with ⟨i, _, h2, h3, _, h5⟩ | ⟨h3, h5⟩
    · rw [h5, anyN_t.2 ⟨i, h2, h3⟩]; rfl
    · rw [h5, anyN_f.2 (fun i hi => by
        by_cases h0 : i = 0
        · subst h0; simp
        · exact h3 i (by omega) hi)]; rfl
theorem refyears_ok {f : SFeatures} (hl : f.fYears.length ≤ ML) : iter FU (fun s => m_ref29_Valid_L1 FU f s) (0 : Int) = some (if yrs f.fYears = true then .inr () else .inl false) := by
  have lt : ∀ {k : Nat}, k ≤ ML → k < FU := fun hk => Nat.lt_of_le_of_lt hk (by decide)
  rw [iter_any (ρ := Bool ⊕ Unit) f.fYears.length FU (fun i => !(decide (1000 ≤ f.fYears.getD i 0) && decide (f.fYears.getD i 0 ≤ 2999)) || decide (0 < i) && decide (f.fYears.getD i 0 ≤ f.fYears.getD (i - 1) 0)) (.inl false) (.inr ()) (fun j hj => by
    unfold m_ref29_Valid_L1
    rw [if_pos (by simp; omega), ix_get 0 hj, wadd1 hj hl]
    simp only [Option.bind_some]
    generalize hx : f.fYears.getD j 0 = x
    by_cases q1 : x < 1000
    · simp [q1, show ¬ 1000 ≤ x by omega]
    · by_cases q2 : 2999 < x
      · simp [q1, q2, show ¬ x ≤ 2999 by omega]
      · by_cases h0 : 0 < j
        · rw [wsub1 h0 (by omega), ix_get 0 (show j - 1 < f.fYears.length by omega)]
          generalize f.fYears.getD (j - 1) 0 = y
          simp [q1, q2, h0, show 1000 ≤ x by omega, show x ≤ 2999 by omega]
          split <;> rfl
        · have h00 : ¬ (0 : Int) < (j : Int) := by omega
          simp [q1, q2, h0, show 1000 ≤ x by omega, show x ≤ 2999 by omega]) (by unfold m_ref29_Valid_L1; simp) (lt hl)]
  unfold yrs
  cases anyN f.fYears.length (fun i => !(decide (1000 ≤ f.fYears.getD i 0) && decide (f.fYears.getD i 0 ≤ 2999)) || decide (0 < i) && decide (f.fYears.getD i 0 ≤ f.fYears.getD (i - 1) 0)) <;> rfl
theorem refset_ok {l : List (List UInt8)} {k : Nat} {lo hi : Int} {g : Int → Option (Int ⊕ (Bool ⊕ Unit))} (h : txs l) (hg : ∀ s, g s = if (decide (s < (l.length : Int))) = true then (ix l s).bind fun v6 => (m_ref29_made FU v6 (k : Int) lo hi).bind fun v7 => if (!v7) = true then some (.inr (.inl false)) else some (.inl (IntKind.i64.wrap (s + (1 : Int)))) else some (.inr (.inr ()))) :
    iter FU g (0 : Int) = some (if l.all (mde · k lo hi) = true then .inr () else .inl false) := by
  have lt : ∀ {k : Nat}, k ≤ ML → k < FU := fun hk => Nat.lt_of_le_of_lt hk (by decide)
  rw [iter_any (ρ := Bool ⊕ Unit) l.length FU (fun i => !mde (l.getD i []) k lo hi) (.inl false) (.inr ()) (fun j hj => by
    have hm : l.getD j [] ∈ l := by simp [hj]
    rw [hg, if_pos (by simp; omega), ix_get [] hj, Option.bind_some, made_ok (h.2 _ hm) (lt (h.2 _ hm)), wadd1 hj h.1, Option.bind_some]
    split <;> rfl) (by rw [hg]; simp) (lt h.1), anyN_getD l [] (fun x => !mde x k lo hi), ← List.not_all_eq_any_not]
  cases l.all (mde · k lo hi) <;> rfl
theorem refv_ok {f : SFeatures} (h : FOk f) : m_ref29_Valid FU f = some (fv f) := by
  have e2 : iter FU (fun s => m_ref29_Valid_L2 FU f s) (0 : Int) = some (if f.fIsbns.all (mde · 13 48 57) = true then .inr () else .inl false) := refset_ok (k := 13) (lo := 48) (hi := 57) h.i (fun s => rfl)
  have e3 : iter FU (fun s => m_ref29_Valid_L3 FU f s) (0 : Int) = some (if f.fLangs.all (mde · 3 97 122) = true then .inr () else .inl false) := refset_ok (k := 3) (lo := 97) (hi := 122) h.l (fun s => rfl)
  unfold m_ref29_Valid
  rw [refyears_ok h.y, e2, e3, words_ok h.t, words_ok h.p, words_ok h.e, key_ok h.a, asc_ok h.i.1, asc_ok h.l.1, asc_ok h.p.1, asc_ok h.e.1]
  have c1 : decide (f.fID < 1) = !decide (1 ≤ f.fID) := by rw [← decide_not, decide_eq_decide]; omega
  have c2 : decide (1000000000 < f.fID) = !decide (f.fID ≤ 1000000000) := by rw [← decide_not, decide_eq_decide]; omega
  have c3 : decide ((20 : Int) < (f.fYears.length : Int)) = !decide (f.fYears.length ≤ 20) := by rw [← decide_not, decide_eq_decide]; omega
  have c4 : decide ((20 : Int) < (f.fIsbns.length : Int)) = !decide (f.fIsbns.length ≤ 20) := by rw [← decide_not, decide_eq_decide]; omega
  have c5 : decide ((20 : Int) < (f.fLangs.length : Int)) = !decide (f.fLangs.length ≤ 20) := by rw [← decide_not, decide_eq_decide]; omega
  rw [c1, c2, c3, c4, c5]
  unfold fv
  cases yrs f.fYears with
  | false => simp
  | true =>
    simp only [if_true, Option.bind_some]
    cases f.fIsbns.all (mde · 13 48 57) with
    | false => simp
    | true =>
      simp only [if_true]
      cases f.fLangs.all (mde · 3 97 122) with
      | false => simp
      | true =>
        simp only [if_true]
        cases decide (f.fYears.length ≤ 20) with
        | false => simp
        | true =>
          cases decide (f.fIsbns.length ≤ 20) with
          | false => simp
          | true =>
            cases decide (f.fLangs.length ≤ 20) with
            | false => simp
            | true =>
              cases decide (1 ≤ f.fID) with
              | false => simp
              | true =>
                cases decide (f.fID ≤ 1000000000) with
                | false => simp
                | true =>
                  simp only [Bool.not_true, Bool.or_self, Bool.false_eq_true, if_false, Bool.true_and, Bool.and_true]
                  cases decide (f.fTitle.length ≤ 200) && f.fTitle.all wrd with
                  | false => simp
                  | true =>
                    cases decide (f.fPublisher.length ≤ 200) && f.fPublisher.all wrd with
                    | false => simp
                    | true =>
                      cases decide (f.fEdition.length ≤ 200) && f.fEdition.all wrd with
                      | false => simp
                      | true =>
                        cases aut f.fAuthor with
                        | false => simp
                        | true =>
                          cases asc f.fIsbns with
                          | false => simp
                          | true =>
                            cases asc f.fLangs with
                            | false => simp
                            | true =>
                              cases asc f.fPublisher with
                              | false => simp
                              | true => simp
structure FB (f : SFeatures) : Prop where
  t : f.fTitle.length ≤ 1048576 ∧ ∀ x ∈ f.fTitle, x.length ≤ 1048576
  a : f.fAuthor.length ≤ 1048576
  y : f.fYears.length ≤ 1048576
  i : f.fIsbns.length ≤ 1048576 ∧ ∀ x ∈ f.fIsbns, x.length ≤ 1048576
  l : f.fLangs.length ≤ 1048576 ∧ ∀ x ∈ f.fLangs, x.length ≤ 1048576
  p : f.fPublisher.length ≤ 1048576 ∧ ∀ x ∈ f.fPublisher, x.length ≤ 1048576
  e : f.fEdition.length ≤ 1048576 ∧ ∀ x ∈ f.fEdition, x.length ≤ 1048576
theorem FB.ok {f : SFeatures} (h : FB f) : FOk f := by
  have lt : ∀ {k : Nat}, k ≤ 1048576 → k ≤ ML := fun hk => Nat.le_trans hk (by decide)
  exact ⟨⟨lt h.t.1, fun x hx => lt (h.t.2 x hx)⟩, lt h.a, lt h.y, ⟨lt h.i.1, fun x hx => lt (h.i.2 x hx)⟩, ⟨lt h.l.1, fun x hx => lt (h.l.2 x hx)⟩, ⟨lt h.p.1, fun x hx => lt (h.p.2 x hx)⟩, ⟨lt h.e.1, fun x hx => lt (h.e.2 x hx)⟩⟩
theorem iter_inv {σ τ : Type} {f : σ → Option (σ ⊕ τ)} (I : Nat → σ → Prop) (Q : τ → Prop) (h : ∀ k s, I k s → (∃ s' k', f s = some (.inl s') ∧ k' < k ∧ I k' s') ∨ (∃ t, f s = some (.inr t) ∧ Q t)) :
    ∀ (k n : Nat) (s : σ), I k s → k < n → ∃ t, iter n f s = some t ∧ Q t := by
  intro k
  induction k using Nat.strongRecOn with
  | _ k ih =>
    intro n s hI hn
    cases n with
    | zero => omega
    | succ n =>
      rcases h k s hI with ⟨s', k', h1, h2, h3⟩ | ⟨t, h1, h2⟩
      · obtain ⟨t, e, q⟩ := ih k' h2 n s' h3 (by omega)
        exact ⟨t, by rw [iter, h1]; exact e, q⟩
      · exact ⟨t, by rw [iter, h1]; rfl, h2⟩
theorem few_ok {f : SFeatures} (h : FB f) : ∃ b, m_ref29_Few FU f = some b := by
  unfold m_ref29_Few
  have h1 := h.t.1; have h2 := h.i.1; have h3 := h.l.1; have h4 := h.p.1; have h5 := h.e.1
  rw [app_eq (by simp; omega) (by simp; omega), Option.bind_some, app_eq (by simp; omega) (by simp; omega), Option.bind_some, app_eq (by simp; omega) (by simp; omega), Option.bind_some, app_eq (by simp; omega) (by simp; omega), Option.bind_some, app_eq (by simp; omega) (by simp; omega), Option.bind_some]
  generalize hL : [f.fAuthor] ++ f.fTitle ++ f.fIsbns ++ f.fLangs ++ f.fPublisher ++ f.fEdition = L
  have hlen : L.length ≤ 10000000 := by rw [← hL]; simp; omega
  obtain ⟨t, e, _⟩ := iter_inv (σ := Int × Int) (f := fun s => m_ref29_Few_L1 FU L s.1 s.2) (I := fun k s => ∃ i : Nat, s.2 = i ∧ i + k = L.length) (Q := fun _ : Bool ⊕ Int => True) (by
    rintro k ⟨s, c⟩ ⟨i, h1, h2⟩
    dsimp only at h1
    subst h1
    simp only [m_ref29_Few_L1]
    by_cases hc : (decide ((i : Int) < (L.length : Int)) && decide ((i : Int) < 300)) = true
    · rw [if_pos hc]
      simp only [Bool.and_eq_true, decide_eq_true_eq] at hc
      rw [ix_get [] (by omega), Option.bind_some]
      by_cases hq : decide ((110 : Int) < ((L.getD i []).length : Int)) = true
      · right; rw [if_pos hq]; exact ⟨_, rfl, trivial⟩
      · left
        rw [if_neg hq, Option.bind_some, w64 (x := (i : Int) + 1) (by omega) (by omega)]
        exact ⟨_, k - 1, rfl, by omega, i + 1, by simp, by omega⟩
    · right; rw [if_neg hc]; exact ⟨_, rfl, trivial⟩) L.length FU ((0 : Int), (0 : Int)) ⟨0, rfl, by omega⟩ (by simp only [FU]; omega)
  rw [e]
  cases t with
  | inl b => exact ⟨b, rfl⟩
  | inr u => exact ⟨_, rfl⟩
end
section
/- The keys of records, in plain Lean. Conditions: none. -/
open Go
def yearL (y : Int) : List UInt8 := Lib.itoa y
theorem year_all : ∀ y : Fin 2000, m_ref30_year 1 ((y.val : Int) + 1000) = some (Lib.itoa ((y.val : Int) + 1000)) := by decide +kernel
theorem year_ok {n : Nat} {y : Int} (h1 : 1000 ≤ y) (h2 : y ≤ 2999) : m_ref30_year n y = some (yearL y) := by
  have := year_all ⟨(y - 1000).toNat, by omega⟩
  have e : (((y - 1000).toNat : Nat) : Int) + 1000 = y := by omega
  simp only [e] at this
  exact this
theorem itoa_len : ∀ y : Fin 2000, (Lib.itoa ((y.val : Int) + 1000)).length = 4 := by decide +kernel
theorem yearL_len {y : Int} (h1 : 1000 ≤ y) (h2 : y ≤ 2999) : (yearL y).length = 4 := by
  have := itoa_len ⟨(y - 1000).toNat, by omega⟩
  have e : (((y - 1000).toNat : Nat) : Int) + 1000 = y := by omega
  simp only [e] at this
  exact this
theorem itoa_ok {y : Int} (h1 : 1000 ≤ y) (h2 : y ≤ 2999) : itoaM y = some (yearL y) := by
  unfold itoaM; rw [if_pos (by omega)]; rfl
def lgst : List UInt8 → List (List UInt8) → List UInt8
  | s, [] => s
  | s, w :: l => lgst (if s.length < w.length then w else s) l
theorem lgst_snoc (w : List UInt8) : ∀ (l : List (List UInt8)) (s : List UInt8), lgst s (l ++ [w]) = if (lgst s l).length < w.length then w else lgst s l
  | [], _s => rfl
  | _x :: l, _s => lgst_snoc w l _
theorem lgst_len : ∀ (l : List (List UInt8)) (s : List UInt8) (m : Nat), s.length ≤ m → (∀ x ∈ l, x.length ≤ m) → (lgst s l).length ≤ m
  | [], s, m, h, _ => h
  | x :: l, s, m, h, hl => by
    refine lgst_len l _ m ?_ (fun y hy => hl y (List.mem_cons_of_mem _ hy))
    split
    · exact hl x (by simp)
    · exact h
theorem longest_ok {l : List (List UInt8)} (hl : l.length ≤ 1048576) : m_block_longest FU l = some (lgst [] l) := by
  have q : iter FU (fun s => m_block_longest_L1 FU l s.1 s.2) (([] : List UInt8), (0 : Int)) = some (lgst [] l) := by
    refine iter_to (f := fun s => m_block_longest_L1 FU l s.1 s.2) (fun j => (lgst [] (l.take j), (j : Int))) l.length FU _ (fun j hj => ?_) ?_ (by simp only [FU]; omega) rfl
    · simp only [m_block_longest_L1]
      rw [if_pos (decide_eq_true (by omega)), ixL hj, Option.bind_some, wadd1 hj (by simp only [ML]; omega), take_snocL hj, lgst_snoc]
      by_cases h : (lgst [] (l.take j)).length < l[j].length
      · rw [if_pos (decide_eq_true (by omega)), if_pos h]; rfl
      · rw [if_neg (by simp; omega), if_neg h]; rfl
    · simp [m_block_longest_L1]
  unfold m_block_longest
  rw [q]; rfl
def tw (l : List (List UInt8)) : List UInt8 := [116] ++ (l.take 3).flatMap (fun w => 32 :: w)
def KL (f : SFeatures) : List (List UInt8) :=
  f.fIsbns.map (fun s => [105, 32] ++ s) ++ (match f.fTitle with
  | [] => []
  | w :: l => [tw (w :: l)] ++ (if f.fAuthor = [] then [] else [[97, 32] ++ f.fAuthor ++ [32] ++ w]) ++ f.fYears.map (fun y => [121, 32] ++ yearL y ++ [32] ++ lgst [] (w :: l)))
def insA : List (List UInt8) → List UInt8 → List (List UInt8)
  | [], s => [s]
  | x :: l, s => if x < s then x :: insA l s else if x = s then x :: l else s :: x :: l
theorem insA_mem {s y : List UInt8} : ∀ {l : List (List UInt8)}, y ∈ insA l s ↔ y = s ∨ y ∈ l
  | [] => by simp [insA]
  | x :: l => by
    rw [insA]
    split
    · rw [List.mem_cons, insA_mem, List.mem_cons]; exact or_left_comm
    · split
      · rename_i h; subst h; simp
      · simp
theorem insA_len {s : List UInt8} : ∀ {l : List (List UInt8)}, (insA l s).length ≤ l.length + 1
  | [] => by simp [insA]
  | x :: l => by
    rw [insA]
    have := insA_len (s := s) (l := l)
    split
    · simp; omega
    · split <;> simp
theorem insA_asc {s : List UInt8} : ∀ {l : List (List UInt8)}, AscS l → AscS (insA l s)
  | [], _ => by simp [insA]
  | x :: l, h => by
    obtain ⟨h1, h2⟩ := List.pairwise_cons.1 h
    rw [insA]
    split
    · rename_i hx
      refine List.pairwise_cons.2 ⟨fun y hy => ?_, insA_asc h2⟩
      rcases insA_mem.1 hy with rfl | hy
      · exact hx
      · exact h1 y hy
    · split
      · exact h
      · rename_i h3 h4
        have hsx : s < x := by
          have h5 : s ≤ x := by simpa using h3
          rcases List.le_iff_lt_or_eq.1 h5 with h6 | h6
          · exact h6
          · exact absurd h6.symm h4
        refine List.pairwise_cons.2 ⟨fun y hy => ?_, h⟩
        rcases List.mem_cons.1 hy with rfl | hy
        · exact hsx
        · exact List.lt_trans hsx (h1 y hy)
def insAll (l ks : List (List UInt8)) : List (List UInt8) := ks.foldl insA l
theorem insAll_mem {y : List UInt8} : ∀ {ks l : List (List UInt8)}, y ∈ insAll l ks ↔ y ∈ l ∨ y ∈ ks
  | [], l => by simp [insAll]
  | k :: ks, l => by
    have := insAll_mem (y := y) (ks := ks) (l := insA l k)
    show y ∈ insAll (insA l k) ks ↔ _
    rw [this, insA_mem, List.mem_cons, or_assoc]
    exact ⟨fun h => h.elim (fun h => .inr (.inl h)) (fun h => h.elim .inl (fun h => .inr (.inr h))), fun h => h.elim (fun h => .inr (.inl h)) (fun h => h.elim .inl (fun h => .inr (.inr h)))⟩
theorem insAll_asc : ∀ {ks l : List (List UInt8)}, AscS l → AscS (insAll l ks)
  | [], _, h => h
  | _ :: ks, _, h => insAll_asc (ks := ks) (insA_asc h)
theorem insAll_len : ∀ {ks l : List (List UInt8)}, (insAll l ks).length ≤ l.length + ks.length
  | [], l => by simp [insAll]
  | k :: ks, l => by
    have h1 := insAll_len (ks := ks) (l := insA l k)
    have h2 := insA_len (s := k) (l := l)
    show (insAll (insA l k) ks).length ≤ _
    simp only [List.length_cons]; omega
theorem insAll_snoc {l ks : List (List UInt8)} {k : List UInt8} : insAll l (ks ++ [k]) = insA (insAll l ks) k := by simp [insAll]
def keys (f : SFeatures) : List (List UInt8) := if fv f = true then insAll [] (KL f) else []
theorem keys_asc (f : SFeatures) : AscS (keys f) := by
  unfold keys
  split
  · exact insAll_asc .nil
  · exact .nil
theorem keys_mem {f : SFeatures} (h : fv f = true) {y : List UInt8} : y ∈ keys f ↔ y ∈ KL f := by
  unfold keys
  rw [if_pos h, insAll_mem]; simp
end
section
/- Both ways to the keys of records, in plain Lean. Conditions: none. -/
open Go
structure FvP (f : SFeatures) : Prop where
  t : f.fTitle.length ≤ 200 ∧ ∀ w ∈ f.fTitle, 1 ≤ w.length ∧ w.length ≤ 400
  a : f.fAuthor.length ≤ 420
  y : f.fYears.length ≤ 20 ∧ ∀ y ∈ f.fYears, 1000 ≤ y ∧ y ≤ 2999
  i : f.fIsbns.length ≤ 20 ∧ ∀ s ∈ f.fIsbns, s.length = 13
  d : 1 ≤ f.fID ∧ f.fID ≤ 1000000000
theorem fv_p {f : SFeatures} (h : fv f = true) : FvP f := by
  unfold fv at h
  simp only [Bool.and_eq_true, decide_eq_true_eq] at h
  obtain ⟨⟨⟨⟨⟨⟨⟨⟨⟨⟨h1, h2⟩, h3⟩, h4⟩, h5⟩, h6⟩, h7⟩, ⟨⟨h8, h9⟩, _⟩⟩, _⟩, _⟩, _⟩ := h
  refine ⟨⟨h3, fun w hw => ?_⟩, ?_, ⟨h6, fun y hy => ?_⟩, ⟨h8, fun s hs => ?_⟩, ⟨h1, h2⟩⟩
  · have := List.all_eq_true.1 h4 w hw
    unfold wrd at this
    simp only [Bool.and_eq_true, decide_eq_true_eq] at this
    exact this.1
  · unfold aut at h5
    simp only [Bool.and_eq_true, decide_eq_true_eq] at h5
    exact h5.1.1
  · unfold yrs at h7
    rw [Bool.not_eq_true', anyN_f] at h7
    obtain ⟨i, hi, rfl⟩ := List.getElem_of_mem hy
    have := h7 i hi
    rw [show f.fYears.getD i 0 = f.fYears[i] by simp [hi], Bool.or_eq_false_iff, Bool.not_eq_false', Bool.and_eq_true, decide_eq_true_eq, decide_eq_true_eq] at this
    exact this.1
  · have := List.all_eq_true.1 h9 s hs
    unfold mde at this
    simp only [Bool.and_eq_true, decide_eq_true_eq] at this
    exact this.1
theorem lgst_cons {w : List UInt8} {l : List (List UInt8)} (h : 1 ≤ w.length) : lgst [] (w :: l) = lgst w l := by
  show lgst (if ([] : List UInt8).length < w.length then w else []) l = _
  rw [if_pos (by simp; omega)]
theorem KL_len {f : SFeatures} (h : FvP f) : (KL f).length ≤ 42 := by
  have h1 := h.i.1; have h2 := h.y.1
  unfold KL
  cases f.fTitle with
  | nil => simp; omega
  | cons w l =>
    simp only [List.length_append, List.length_map, List.length_cons, List.length_nil]
    split <;> simp <;> omega
theorem scan_to {α : Type} {l a b : List α} {p : α → Bool} {f : Int → Option (Int ⊕ Int)} (hl : l = a ++ b) (ha : ∀ y ∈ a, p y = true) (hb : ∀ y b', b = y :: b' → p y = false) (hlen : l.length ≤ 1000000000)
    (hf : ∀ (j : Nat) (h : j < l.length), f (j : Int) = some (if p l[j] = true then .inl ((j + 1 : Nat) : Int) else .inr (j : Int))) (he : f (l.length : Int) = some (.inr (l.length : Int))) : iter FU f 0 = some (a.length : Int) := by
  subst hl
  refine iter_to (fun j => (j : Int)) a.length FU 0 (fun j hj => ?_) ?_ (by simp only [FU]; rw [List.length_append] at hlen; omega) rfl
  · have hj2 : j < (a ++ b).length := by rw [List.length_append]; omega
    rw [hf j hj2, if_pos (by rw [List.getElem_append_left hj]; exact ha _ (List.getElem_mem hj))]
  · cases b with
    | nil => simpa using he
    | cons y b' =>
      have hj2 : a.length < (a ++ y :: b').length := by simp
      rw [hf _ hj2, if_neg (by rw [List.getElem_append_right (Nat.le_refl _)]; simp [hb y b' rfl])]
theorem insA_split {s : List UInt8} : ∀ {a b : List (List UInt8)}, (∀ y ∈ a, y < s) → (∀ y b', b = y :: b' → ¬ y < s) → insA (a ++ b) s = if b.head? = some s then a ++ b else a ++ s :: b
  | [], [], _, _ => by simp [insA]
  | [], y :: b, _, hb => by
    rw [List.nil_append, insA, if_neg (hb y b rfl)]
    simp only [List.head?_cons, Option.some.injEq, List.nil_append]
  | x :: a, b, ha, hb => by
    rw [List.cons_append, insA, if_pos (ha x (by simp)), insA_split (fun y hy => ha y (by simp [hy])) hb]
    split <;> rfl
theorem insert_ok {l : List (List UInt8)} {s : List UInt8} (hl : l.length ≤ 1000000) : m_ref30_insert FU l s = some (insA l s) := by
  obtain ⟨a, b, rfl, ha, hb⟩ := split_lt (fun y => ltS y s) l
  have hq : iter FU (fun t => m_ref30_insert_L1 FU (a ++ b) s t) (0 : Int) = some (a.length : Int) := by
    refine scan_to (p := fun y => ltS y s) rfl ha hb (by omega) (fun j hj => ?_) ?_
    · unfold m_ref30_insert_L1
      rw [if_pos (decide_eq_true (by omega)), ixL hj, Option.bind_some, decide_eq_true (by omega : (j : Int) < ((a ++ b).length : Int)), Bool.true_and, wadd1 hj (by simp only [ML]; omega)]
      split <;> rfl
    · unfold m_ref30_insert_L1
      simp
  have h2 : ∀ y ∈ a, y < s := fun y hy => by have := ha y hy; rw [ltS_str] at this; simpa using this
  have h3 : ∀ y b', b = y :: b' → ¬ y < s := fun y b' e => by have := hb y b' e; rw [ltS_str] at this; simpa using this
  rw [insA_split h2 h3]
  unfold m_ref30_insert
  rw [hq, Option.bind_some]
  rw [List.length_append] at hl
  cases b with
  | nil =>
    simp only [List.append_nil] at *
    rw [if_neg (by simp), Option.bind_some, decide_eq_false (by omega), Bool.false_and, if_neg (by simp)]
    have h4 := slc_split (a := a) (b := ([] : List (List UInt8)))
    simp only [List.append_nil] at h4
    rw [h4.1, h4.2, Option.bind_some, Option.bind_some, app_eq (by simp) (by simp), Option.bind_some, app_eq (by simp; omega) (by simp; omega)]
    simp
  | cons y b' =>
    have hlt : (a.length : Int) < ((a ++ y :: b').length : Int) := by simp; omega
    rw [if_pos (decide_eq_true hlt), ixL (by simp), Option.bind_some, decide_eq_true hlt, Bool.true_and]
    simp only [List.getElem_append_right (Nat.le_refl _), Nat.sub_self, List.getElem_cons_zero, List.head?_cons, Option.some.injEq, decide_eq_true_eq]
    split
    · rfl
    · rw [slc_split.1, slc_split.2, Option.bind_some, Option.bind_some]
      simp only [List.length_cons] at hl
      rw [app_eq (by simp; omega) (by simp; omega), Option.bind_some, app_eq (by simp; omega) (by simp; omega)]
      rfl
theorem appS_eq {l l' : List UInt8} (h : l.length + l'.length ≤ 1000000) : appS l l' = some (l ++ l') := by
  unfold appS; rw [if_pos (by omega)]
theorem insAll_app {l a b : List (List UInt8)} : insAll l (a ++ b) = insAll (insAll l a) b := by simp [insAll]
theorem insAll_lenN {l ks : List (List UInt8)} {j : Nat} (hl : l.length ≤ 100) (h : ks.length ≤ 100) : (insAll l (ks.take j)).length ≤ 200 := by
  have := insAll_len (ks := ks.take j) (l := l)
  rw [List.length_take] at this; omega
theorem fm_len {l : List (List UInt8)} (h : ∀ w ∈ l, w.length ≤ 400) : ∀ j, ((l.take j).flatMap (fun w => (32 : UInt8) :: w)).length ≤ 401 * j := by
  intro j
  induction j with
  | zero => simp
  | succ j ih =>
    by_cases hj : j < l.length
    · rw [take_snocL hj, List.flatMap_append, List.length_append]
      have := h _ (List.getElem_mem hj)
      simp only [List.flatMap_cons, List.flatMap_nil, List.append_nil, List.length_cons]; omega
    · rw [List.take_of_length_le (by omega)] at *
      omega
theorem rkeys_ok {f : SFeatures} (h : FOk f) : m_ref30_Keys FU f = some (keys f) := by
  unfold m_ref30_Keys keys
  rw [refv_ok h, Option.bind_some]
  by_cases hv : fv f = true
  case neg => rw [if_pos (by simpa using hv), if_neg hv]
  have q := fv_p hv
  rw [if_neg (by simpa using hv), if_pos hv]
  have e1 : iter FU (fun s => m_ref30_Keys_L1 FU f s.1 s.2) (([] : List (List UInt8)), (0 : Int)) = some (insAll [] (f.fIsbns.map (fun s => [105, 32] ++ s))) := by
    refine iter_to (f := fun s => m_ref30_Keys_L1 FU f s.1 s.2) (fun j => (insAll [] ((f.fIsbns.map (fun s => [105, 32] ++ s)).take j), (j : Int))) f.fIsbns.length FU _ (fun j hj => ?_) ?_ (by simp only [FU]; have := q.i.1; omega) rfl
    · have hj2 : j < (f.fIsbns.map (fun s => ([105, 32] : List UInt8) ++ s)).length := by simpa using hj
      have hb : (insAll [] ((f.fIsbns.map (fun s => ([105, 32] : List UInt8) ++ s)).take j)).length ≤ 200 := insAll_lenN (by simp) (by simp; have := q.i.1; omega)
      simp only [m_ref30_Keys_L1]
      rw [if_pos (decide_eq_true (by omega)), ixL hj, Option.bind_some, appS_eq (by have := q.i.2 _ (List.getElem_mem hj); simp; omega), Option.bind_some, insert_ok (by omega), Option.bind_some, wadd1 hj (by simp only [ML]; have := q.i.1; omega), take_snocL hj2, insAll_snoc, List.getElem_map]
    · simp only [m_ref30_Keys_L1]; rw [if_neg (by simp), List.take_of_length_le (by simp)]
  rw [e1, Option.bind_some]
  have hA : (insAll [] (f.fIsbns.map (fun s => ([105, 32] : List UInt8) ++ s))).length ≤ 20 := by
    have := insAll_len (ks := f.fIsbns.map (fun s => ([105, 32] : List UInt8) ++ s)) (l := []); simp only [List.length_map, List.length_nil] at this; have := q.i.1; omega
  generalize hI : insAll [] (f.fIsbns.map (fun s => ([105, 32] : List UInt8) ++ s)) = A at hA
  unfold KL
  rw [insAll_app, hI]
  cases ht : f.fTitle with
  | nil => simp [insAll]
  | cons w l =>
    have hw : ∀ x ∈ w :: l, 1 ≤ x.length ∧ x.length ≤ 400 := by rw [← ht]; exact q.t.2
    have hn : (w :: l).length ≤ 200 := by rw [← ht]; exact q.t.1
    have hw1 := hw w (by simp)
    rw [if_neg (by simp; omega), show ix (w :: l) (0 : Int) = some w from rfl, Option.bind_some]
    have e2 : iter FU (fun s => m_ref30_Keys_L2 FU f s.1 s.2.1 s.2.2) (([116] : List UInt8), w, (0 : Int)) = some (tw (w :: l), lgst [] (w :: l)) := by
      have hl0 : lgst [] (w :: l) = lgst w (w :: l) := by rw [lgst_cons hw1.1]; show _ = lgst (if w.length < w.length then w else w) l; simp
      rw [hl0]
      have hlen0 : ∀ x ∈ w :: l, x.length ≤ 400 := fun x hx => (hw x hx).2
      have hlen : ∀ j, (lgst w ((w :: l).take j)).length ≤ 400 := fun j => lgst_len _ _ _ hw1.2 (fun x hx => (hw x (List.mem_of_mem_take hx)).2)
      generalize hL : w :: l = L at *
      refine iter_to (f := fun s => m_ref30_Keys_L2 FU f s.1 s.2.1 s.2.2) (fun j => ([116] ++ (L.take (min j 3)).flatMap (fun w => 32 :: w), lgst w (L.take j), (j : Int))) L.length FU _ (fun j hj => ?_) ?_ (by simp only [FU]; omega) rfl
      · have hx := hw _ (List.getElem_mem hj)
        simp only [m_ref30_Keys_L2, ht]
        rw [if_pos (decide_eq_true (by omega)), ixL hj, Option.bind_some, wadd1 hj (by simp only [ML]; omega), take_snocL hj, lgst_snoc]
        by_cases h3 : j < 3
        · have hm := fm_len hlen0 j
          rw [if_pos (decide_eq_true (by omega)), appS_eq (by simp; omega), Option.bind_some, Nat.min_eq_left (by omega : j ≤ 3), Nat.min_eq_left (by omega : j + 1 ≤ 3), appS_eq (by simp only [List.length_append, List.length_cons, List.length_nil]; omega), Option.bind_some, Option.bind_some, take_snocL hj, List.flatMap_append, Option.bind_some]
          by_cases hc : (lgst w (L.take j)).length < L[j].length
          · rw [if_pos (decide_eq_true (by omega)), if_pos hc]; simp
          · rw [if_neg (by simp; omega), if_neg hc]; simp
        · rw [if_neg (by simp; omega), Option.bind_some, Nat.min_eq_right (by omega : 3 ≤ j), Nat.min_eq_right (by omega : 3 ≤ j + 1), Option.bind_some]
          by_cases hc : (lgst w (L.take j)).length < L[j].length
          · rw [if_pos (decide_eq_true (by omega)), if_pos hc]; rfl
          · rw [if_neg (by simp; omega), if_neg hc]; rfl
      · simp only [m_ref30_Keys_L2, ht]
        rw [if_neg (by simp), List.take_length]
        unfold tw
        by_cases h3 : 3 ≤ L.length
        · rw [Nat.min_eq_right h3]
        · rw [Nat.min_eq_left (by omega), List.take_length, List.take_of_length_le (by omega)]
    rw [e2, Option.bind_some]
    have hB : (insA A (tw (w :: l))).length ≤ 21 := by have := insA_len (s := tw (w :: l)) (l := A); omega
    have hg : (lgst [] (w :: l)).length ≤ 400 := lgst_len _ _ _ (by simp) (fun x hx => (hw x hx).2)
    dsimp only
    rw [insert_ok (by omega), Option.bind_some, insAll_app, insAll_app]
    show _ = some (insAll (insAll (insA A (tw (w :: l))) _) _)
    generalize insA A (tw (w :: l)) = B at hB
    generalize lgst [] (w :: l) = g at hg
    have e3 : ∀ C : List (List UInt8), C.length ≤ 30 → (iter FU (fun s => m_ref30_Keys_L3 FU f (tw (w :: l), g) s.1 s.2) (C, (0 : Int))) = some (insAll C (f.fYears.map (fun y => [121, 32] ++ yearL y ++ [32] ++ g))) := by
      intro C hC
      refine iter_to (f := fun s => m_ref30_Keys_L3 FU f (tw (w :: l), g) s.1 s.2) (fun j => (insAll C ((f.fYears.map (fun y => [121, 32] ++ yearL y ++ [32] ++ g)).take j), (j : Int))) f.fYears.length FU _ (fun j hj => ?_) ?_ (by simp only [FU]; have := q.y.1; omega) rfl
      · have hj2 : j < (f.fYears.map (fun y => ([121, 32] : List UInt8) ++ yearL y ++ [32] ++ g)).length := by simpa using hj
        have hb : (insAll C ((f.fYears.map (fun y => ([121, 32] : List UInt8) ++ yearL y ++ [32] ++ g)).take j)).length ≤ 200 := insAll_lenN (by omega) (by simp; have := q.y.1; omega)
        have hy := q.y.2 _ (List.getElem_mem hj)
        have hyl := yearL_len hy.1 hy.2
        simp only [m_ref30_Keys_L3]
        rw [if_pos (decide_eq_true (by omega)), ixL hj, Option.bind_some, year_ok hy.1 hy.2, Option.bind_some, appS_eq (by simp; omega), Option.bind_some, appS_eq (by simp; omega), Option.bind_some, appS_eq (by simp; omega), Option.bind_some, insert_ok (by omega), Option.bind_some, wadd1 hj (by simp only [ML]; have := q.y.1; omega), take_snocL hj2, insAll_snoc, List.getElem_map]
      · simp only [m_ref30_Keys_L3]; rw [if_neg (by simp), List.take_of_length_le (by simp)]
    by_cases ha : f.fAuthor = []
    · rw [if_neg (by simp [ha]), if_pos ha, Option.bind_some, e3 B (by omega)]; rfl
    · have hal := q.a
      rw [if_pos (by simp [ha]), if_neg ha, appS_eq (by simp; omega), Option.bind_some, appS_eq (by simp; omega), Option.bind_some, Option.bind_some, appS_eq (by simp; omega), Option.bind_some, insert_ok (by omega), Option.bind_some, Option.bind_some]
      rw [e3 _ (by have := insA_len (s := [97, 32] ++ f.fAuthor ++ [32] ++ w) (l := B); omega)]
      rfl
end
section
/- The program's keys, in plain Lean. Conditions: none. -/
open Go
def kp (m : List (List UInt8 × Bool)) (ks : List (List UInt8)) : List (List UInt8 × Bool) := ks.foldl (fun m k => mput m k true) m
theorem kp_snoc {m : List (List UInt8 × Bool)} {ks : List (List UInt8)} {k : List UInt8} : kp m (ks ++ [k]) = mput (kp m ks) k true := by simp [kp]
theorem kp_app {m : List (List UInt8 × Bool)} {a b : List (List UInt8)} : kp m (a ++ b) = kp (kp m a) b := by simp [kp]
theorem kp_nodup : ∀ {ks : List (List UInt8)} {m : List (List UInt8 × Bool)}, (m.map (·.1)).Nodup → ((kp m ks).map (·.1)).Nodup
  | [], _, h => h
  | _ :: ks, _, h => kp_nodup (ks := ks) (nodup_put h)
theorem kp_mem {y : List UInt8} : ∀ {ks : List (List UInt8)} {m : List (List UInt8 × Bool)}, y ∈ (kp m ks).map (·.1) ↔ y ∈ m.map (·.1) ∨ y ∈ ks
  | [], _ => by simp [kp]
  | k :: ks, m => by
    have ih := kp_mem (y := y) (ks := ks) (m := mput m k true)
    show y ∈ (kp (mput m k true) ks).map (·.1) ↔ _
    rw [ih, mput_keys, List.mem_cons]
    split
    · rename_i hk
      constructor
      · rintro (h | h)
        · exact .inl h
        · exact .inr (.inr h)
      · rintro (h | rfl | h)
        · exact .inl h
        · exact .inl hk
        · exact .inr h
    · rw [List.mem_append, List.mem_singleton, or_assoc]
theorem kp_len : ∀ {ks : List (List UInt8)} {m : List (List UInt8 × Bool)}, (kp m ks).length ≤ m.length + ks.length
  | [], _ => by simp [kp]
  | k :: ks, m => by
    have ih := kp_len (ks := ks) (m := mput m k true)
    have h1 : (mput m k true).length ≤ m.length + 1 := by
      have := congrArg List.length (mput_keys (k := k) (v := true) (m := m))
      rw [List.length_map] at this
      rw [this]
      split <;> simp
    show (kp (mput m k true) ks).length ≤ _
    simp only [List.length_cons]; omega
theorem iterR_keys : ∀ {p : List (List UInt8 × Bool)} {s : List (List UInt8)}, s.length + p.length ≤ 1000 → iterR (fun s e => m_block_Keys_L3 FU s e) (fun s => (s : List (List UInt8))) s p = some (s ++ p.map (·.1))
  | [], s, _ => by simp [iterR]
  | e :: p, s, h => by
    simp only [List.length_cons] at h
    rw [iterR]
    unfold m_block_Keys_L3
    rw [app_one (by omega) (by omega), Option.bind_some, Option.bind_some]
    have := iterR_keys (p := p) (s := s ++ [e.1]) (by simp; omega)
    rw [show (fun s e => m_block_Keys_L3 FU s e) = (fun s (e : List UInt8 × Bool) => (app 16 s ([e.1] : List (List UInt8))).bind fun v17 => some (.inl v17)) from rfl] at this
    simp only [this]
    simp
theorem join3 {w : List UInt8} {l : List (List UInt8)} : ([116, 32] : List UInt8) ++ Lib.join ((w :: l).take 3) [32] = tw (w :: l) := by
  unfold tw Lib.join
  match l with
  | [] => simp [List.intercalate]
  | [x] => simp [List.intercalate, List.intersperse]
  | x :: y :: l => simp [List.intercalate, List.intersperse]
theorem join_len : ∀ {l : List (List UInt8)} (_ : ∀ w ∈ l, w.length ≤ 400), (Lib.join l [32]).length ≤ 401 * l.length
  | [], _ => by simp [Lib.join, List.intercalate]
  | [x], h => by have := h x (by simp); simp [Lib.join, List.intercalate]; omega
  | x :: y :: l, h => by
    have ih := join_len (l := y :: l) (fun w hw => h w (by simp at hw ⊢; exact .inr hw))
    have hx := h x (by simp)
    unfold Lib.join at *
    simp only [List.intercalate, List.intersperse, List.flatten_cons, List.length_append, List.length_cons, List.length_nil] at *
    omega
theorem keys_ok {f : SFeatures} (h : FOk f) : m_block_Keys FU f = some (keys f) := by
  unfold m_block_Keys
  have h0 : m_feature_Valid FU (⟨f.fID, f.fTitle, f.fAuthor, f.fYears, f.fIsbns, f.fLangs, f.fPublisher, f.fEdition⟩ : SFeatures) = some (fv f) := feature_ok h (by decide)
  rw [h0, Option.bind_some]
  by_cases hv : fv f = true
  case neg => rw [if_pos (by simpa using hv)]; unfold keys; rw [if_neg hv]
  have q := fv_p hv
  rw [if_neg (by simpa using hv)]
  have e1 : iter FU (fun s => m_block_Keys_L1 FU f s.1 s.2) ((0 : Int), ([] : List (List UInt8 × Bool))) = some (kp [] (f.fIsbns.map (fun s => [105, 32] ++ s))) := by
    refine iter_to (f := fun s => m_block_Keys_L1 FU f s.1 s.2) (fun j => ((j : Int), kp [] ((f.fIsbns.map (fun s => [105, 32] ++ s)).take j))) f.fIsbns.length FU _ (fun j hj => ?_) ?_ (by simp only [FU]; have := q.i.1; omega) rfl
    · have hj2 : j < (f.fIsbns.map (fun s => ([105, 32] : List UInt8) ++ s)).length := by simpa using hj
      simp only [m_block_Keys_L1]
      rw [if_pos (decide_eq_true (by omega)), ixL hj, Option.bind_some, appS_eq (by have := q.i.2 _ (List.getElem_mem hj); simp; omega), Option.bind_some, Option.bind_some, wadd1 hj (by simp only [ML]; have := q.i.1; omega), take_snocL hj2, kp_snoc, List.getElem_map]
    · simp only [m_block_Keys_L1]; rw [if_neg (by simp), List.take_of_length_le (by simp)]
  rw [e1, Option.bind_some]
  have e2 : ((
    if (decide ((0 : Int) < (f.fTitle.length : Int))) = true then
      (slc f.fTitle (0 : Int) (min (f.fTitle.length : Int) (3 : Int))).bind fun v4 =>
      (joinM v4 ([32] : List UInt8)).bind fun v5 =>
      (appS ([116, 32] : List UInt8) v5).bind fun v6 =>
      (some (mput (kp [] (f.fIsbns.map (fun s => [105, 32] ++ s))) v6 true)).bind fun v7 =>
      (
        if (!decide (f.fAuthor = ([] : List UInt8))) = true then
          (appS ([97, 32] : List UInt8) f.fAuthor).bind fun v8 =>
          (appS v8 ([32] : List UInt8)).bind fun v9 =>
          (ix f.fTitle (0 : Int)).bind fun v10 =>
          (appS v9 v10).bind fun v11 =>
          (some (mput v7 v11 true)).bind fun v12 =>
          some v12
        else
        some v7 : Option (List ((List UInt8) × Bool))).bind fun t13 =>
      (iter FU (fun s => m_block_Keys_L2 FU f s.1 s.2) ((0 : Int), t13)).bind fun t14 =>
      some t14
    else
    some (kp [] (f.fIsbns.map (fun s => [105, 32] ++ s))) : Option (List ((List UInt8) × Bool)))) = some (kp [] (KL f)) := by
    unfold KL
    rw [kp_app]
    generalize kp [] (f.fIsbns.map (fun s => [105, 32] ++ s)) = A
    cases ht : f.fTitle with
    | nil => simp [kp]
    | cons w l =>
      have hw : ∀ x ∈ w :: l, 1 ≤ x.length ∧ x.length ≤ 400 := by rw [← ht]; exact q.t.2
      have hn : (w :: l).length ≤ 200 := by rw [← ht]; exact q.t.1
      have hw1 := hw w (by simp)
      have hs : slc (w :: l) (0 : Int) (min ((w :: l).length : Int) 3) = some ((w :: l).take 3) := by
        unfold slc
        rw [if_pos (by simp only [List.length_cons]; omega)]
        congr 1
        simp only [Int.toNat_zero, List.drop_zero]
        by_cases h3 : (w :: l).length ≤ 3
        · rw [Int.min_eq_left (by omega), Int.toNat_natCast, List.take_length, List.take_of_length_le h3]
        · rw [Int.min_eq_right (by omega)]; rfl
      have hjl : (Lib.join ((w :: l).take 3) [32]).length ≤ 1203 := by
        have := join_len (l := (w :: l).take 3) (fun x hx => (hw x (List.mem_of_mem_take hx)).2)
        have h3 : ((w :: l).take 3).length ≤ 3 := by rw [List.length_take]; omega
        omega
      have hj : joinM ((w :: l).take 3) [32] = some (Lib.join ((w :: l).take 3) [32]) := by
        unfold joinM
        rw [if_pos ⟨by rw [List.length_take]; omega, by omega⟩]
      rw [if_pos (by simp), hs, Option.bind_some, hj, Option.bind_some, appS_eq (by simp only [List.length_cons, List.length_nil]; omega), Option.bind_some, Option.bind_some, join3, kp_app, kp_app]
      show _ = some (kp (kp (mput A (tw (w :: l)) true) _) _)
      generalize mput A (tw (w :: l)) true = B
      have hg : (lgst [] (w :: l)).length ≤ 400 := lgst_len _ _ _ (by simp) (fun x hx => (hw x hx).2)
      have hgo : m_block_longest FU f.fTitle = some (lgst [] (w :: l)) := by rw [ht]; exact longest_ok (by omega)
      generalize lgst [] (w :: l) = g at hg hgo
      have e3 : ∀ C : List (List UInt8 × Bool), (iter FU (fun s => m_block_Keys_L2 FU f s.1 s.2) ((0 : Int), C)) = some (kp C (f.fYears.map (fun y => [121, 32] ++ yearL y ++ [32] ++ g))) := by
        intro C
        refine iter_to (f := fun s => m_block_Keys_L2 FU f s.1 s.2) (fun j => ((j : Int), kp C ((f.fYears.map (fun y => [121, 32] ++ yearL y ++ [32] ++ g)).take j))) f.fYears.length FU _ (fun j hj => ?_) ?_ (by simp only [FU]; have := q.y.1; omega) rfl
        · have hj2 : j < (f.fYears.map (fun y => ([121, 32] : List UInt8) ++ yearL y ++ [32] ++ g)).length := by simpa using hj
          have hy := q.y.2 _ (List.getElem_mem hj)
          have hyl := yearL_len hy.1 hy.2
          simp only [m_block_Keys_L2]
          rw [if_pos (decide_eq_true (by omega)), ixL hj, Option.bind_some, itoa_ok hy.1 hy.2, Option.bind_some, appS_eq (by simp; omega), Option.bind_some, appS_eq (by simp; omega), Option.bind_some, hgo, Option.bind_some, appS_eq (by simp; omega), Option.bind_some, Option.bind_some, wadd1 hj (by simp only [ML]; have := q.y.1; omega), take_snocL hj2, kp_snoc, List.getElem_map]
        · simp only [m_block_Keys_L2]; rw [if_neg (by simp), List.take_of_length_le (by simp)]
      by_cases ha : f.fAuthor = []
      · rw [if_neg (by simp [ha]), if_pos ha, Option.bind_some, e3 B]; rfl
      · have hal := q.a
        rw [if_pos (by simp [ha]), if_neg ha, appS_eq (by simp; omega), Option.bind_some, appS_eq (by simp; omega), Option.bind_some, show ix (w :: l) (0 : Int) = some w from rfl, Option.bind_some, appS_eq (by simp; omega), Option.bind_some, Option.bind_some, Option.bind_some]
        rw [e3 _]
        rfl
  rw [e2, Option.bind_some]
  have hKL := KL_len q
  have hlen : (kp [] (KL f)).length ≤ 42 := by have := kp_len (ks := KL f) (m := []); simp only [List.length_nil] at this; omega
  refine rangeK_of fun p hp => ?_
  have hpl : p.length ≤ 42 := by rw [hp.length_eq]; exact hlen
  rw [iterR_keys (by simp; omega), Option.bind_some]
  unfold m_slices_Sort_string_string
  rw [if_pos (by simp; omega), Option.bind_some]
  congr 1
  rw [List.nil_append]
  have hnd : (p.map (·.1)).Nodup := ((hp.map (·.1)).nodup_iff).2 (kp_nodup (by simp))
  refine ascS_ext (sorted_str hnd) (keys_asc f) fun y => ?_
  rw [(isort_perm strLt _).mem_iff, keys_mem hv, (hp.map (·.1)).mem_iff, kp_mem]
  simp
theorem keys_len (f : SFeatures) : (keys f).length ≤ 42 := by
  unfold keys
  split
  · rename_i h
    have := insAll_len (ks := KL f) (l := [])
    have h2 := KL_len (fv_p h)
    simp only [List.length_nil] at this; omega
  · simp
theorem keys_ne {f : SFeatures} {s : List UInt8} (h : s ∈ keys f) : s ≠ [] := by
  unfold keys at h
  split at h
  · rw [insAll_mem] at h
    rcases h with h | h
    · cases h
    · unfold KL at h
      rw [List.mem_append, List.mem_map] at h
      rcases h with ⟨x, _, rfl⟩ | h
      · simp
      · cases ht : f.fTitle with
        | nil => rw [ht] at h; cases h
        | cons w l =>
          rw [ht] at h
          simp only [List.mem_append, List.mem_map] at h
          rcases h with (h | h) | ⟨y, _, rfl⟩
          · rw [List.mem_singleton] at h; subst h; simp [tw]
          · split at h
            · cases h
            · rw [List.mem_singleton] at h; subst h; simp
          · simp
  · cases h
end
end Go.Proofs.YtkdefjliknpliaaGreatDoor.Ab
