/- Plain laws, joined. Conditions: none. -/
import Derived.Test.YtkdefjliknpliaaGreatDoorUn
namespace Go.Proofs.YtkdefjliknpliaaGreatDoor.Ab
section
/- What the laws are made of, in plain Lean. Conditions: none. -/
open Go

/-! ### lists that are the same -/
theorem same_gen {α : Type} [DecidableEq α] [Inhabited α] {a b : List α} {g : Int → Option (Int ⊕ (Bool ⊕ Unit))} (hl : a.length ≤ 100000000)
    (hg : ∀ (j : Nat) (h : j < a.length) (h2 : j < b.length), g (j : Int) = some (if a[j] = b[j] then .inl ((j + 1 : Nat) : Int) else .inr (.inl false))) (he : g (a.length : Int) = some (.inr (.inr ()))) :
    (if (!decide ((a.length : Int) = (b.length : Int))) = true then some false else (iter FU g (0 : Int)).bind fun t3 => match t3 with | (.inl u4) => some u4 | (.inr _) => some true) = some (decide (a = b)) := by
  by_cases hlen : a.length = b.length
  · rw [if_neg (by simp [hlen])]
    have := iter_any (ρ := Bool ⊕ Unit) (f := g) a.length FU (fun i => !decide (a.getD i default = b.getD i default)) (.inl false) (.inr ()) (fun j hj => by
      rw [hg j hj (by omega), show a.getD j default = a[j] by simp [hj], show b.getD j default = b[j] by simp [show j < b.length by omega]]
      by_cases h : a[j] = b[j]
      · rw [if_pos h, decide_eq_true h]; rfl
      · rw [if_neg h, decide_eq_false h]; rfl) he (by simp only [FU]; omega)
    rw [this, Option.bind_some]
    have e : anyN a.length (fun i => !decide (a.getD i default = b.getD i default)) = !decide (a = b) := by
      rw [Bool.eq_iff_iff, anyN_t]
      simp only [Bool.not_eq_true', decide_eq_false_iff_not]
      constructor
      · rintro ⟨i, _, h⟩ e; subst e; exact h rfl
      · intro h
        by_cases hh : ∃ i, i < a.length ∧ ¬ a.getD i default = b.getD i default
        · exact hh
        · exfalso; apply h
          refine List.ext_getElem hlen fun i h1 h2 => ?_
          have : a.getD i default = b.getD i default := Classical.byContradiction fun hc => hh ⟨i, h1, hc⟩
          simpa [h1, h2] using this
    rw [e]
    cases decide (a = b) <;> rfl
  · rw [if_pos (by simp; omega), decide_eq_false (fun e => hlen (by rw [e]))]
theorem sameI_ok {a b : List Int} (hl : a.length ≤ 100000000) : m_ref30_SameInts FU a b = some (decide (a = b)) :=
  same_gen hl (g := fun s => m_ref30_SameInts_L1 FU a b s) (fun j h h2 => by
    unfold m_ref30_SameInts_L1
    rw [if_pos (decide_eq_true (by omega)), ixL h, Option.bind_some, ixL h2, Option.bind_some, wadd1 h (by simp only [ML]; omega)]
    by_cases e : a[j] = b[j]
    · rw [if_neg (by simp [e]), if_pos e]
    · rw [if_pos (by simp [e]), if_neg e]) (by unfold m_ref30_SameInts_L1; simp)
theorem sameT_ok {a b : List (List UInt8)} (hl : a.length ≤ 100000000) : m_ref29_SameTexts FU a b = some (decide (a = b)) :=
  same_gen hl (g := fun s => m_ref29_SameTexts_L1 FU a b s) (fun j h h2 => by
    unfold m_ref29_SameTexts_L1
    rw [if_pos (decide_eq_true (by omega)), ixL h, Option.bind_some, ixL h2, Option.bind_some, wadd1 h (by simp only [ML]; omega)]
    by_cases e : a[j] = b[j]
    · rw [if_neg (by simp [e]), if_pos e]
    · rw [if_pos (by simp [e]), if_neg e]) (by unfold m_ref29_SameTexts_L1; simp)
theorem same_ok {a b : List SBlock} (hl : TB a) : m_ref30_Same FU a b = some (decide (a = b)) :=
  same_gen (by have := hl.n; omega) (g := fun s => m_ref30_Same_L1 FU a b s) (fun j h h2 => by
    have hn := hl.n
    have hi := hl.i _ (List.getElem_mem h)
    unfold m_ref30_Same_L1
    rw [if_pos (decide_eq_true (by omega)), ixL h, Option.bind_some, ixL h2, Option.bind_some, wadd1 h (by simp only [ML]; omega)]
    generalize a[j] = x at *
    generalize b[j] = y
    obtain ⟨k, m⟩ := x
    obtain ⟨k2, m2⟩ := y
    dsimp only at hi ⊢
    by_cases e : k = k2
    · subst e
      rw [decide_eq_true rfl]
      simp only [Bool.not_true, Bool.not_false, if_true, Option.bind_some, sameI_ok (show m.length ≤ 100000000 by omega), Bool.false_or]
      by_cases e2 : m = m2
      · rw [decide_eq_true e2, if_neg (by simp), if_pos (by rw [e2])]
      · rw [decide_eq_false e2, if_pos (by simp), if_neg (by simp [e2])]
    · rw [decide_eq_false e]
      simp only [Bool.not_false, Bool.not_true, Bool.false_eq_true, if_false, Option.bind_some, Bool.true_or, if_true]
      rw [if_neg (by simp [e])]) (by unfold m_ref30_Same_L1; simp)
theorem own_ok {t : List SBlock} (h : t.length ≤ 2000000) : m_law30_Own FU t = some t := by
  unfold m_law30_Own
  have : iter FU (fun s => m_law30_Own_L1 FU t s.1 s.2) (([] : List SBlock), (0 : Int)) = some t := by
    refine iter_to (f := fun s => m_law30_Own_L1 FU t s.1 s.2) (fun j => (t.take j, (j : Int))) t.length FU _ (fun j hj => ?_) ?_ (by simp only [FU]; omega) rfl
    · simp only [m_law30_Own_L1]
      rw [if_pos (decide_eq_true (by omega)), ixL hj, Option.bind_some, app_one (by simp; omega) (by simp; omega), Option.bind_some, wadd1 hj (by simp only [ML]; omega), take_snocL hj]
    · simp only [m_law30_Own_L1]; rw [if_neg (by simp), List.take_length]
  rw [this]; rfl
theorem theirs_ok {t : List SBlock} (h : t.length ≤ 2000000) : m_law30_Theirs FU t = some t := own_ok h
theorem owns_ok {l : List SFeatures} (h : l.length ≤ 8) : m_law29_Owns FU l = some l := by
  unfold m_law29_Owns
  have : iter FU (fun s => m_law29_Owns_L1 FU l s.1 s.2) (([] : List SFeatures), (0 : Int)) = some l := by
    refine iter_to (f := fun s => m_law29_Owns_L1 FU l s.1 s.2) (fun j => (l.take j, (j : Int))) l.length FU _ (fun j hj => ?_) ?_ (by simp only [FU]; omega) rfl
    · simp only [m_law29_Owns_L1]
      unfold m_law29_Own
      rw [if_pos (decide_eq_true (by omega)), ixL hj, Option.bind_some, Option.bind_some, app_one (by simp; omega) (by simp; omega), Option.bind_some, wadd1 hj (by simp only [ML]; omega), take_snocL hj]
    · simp only [m_law29_Owns_L1]; rw [if_neg (by simp), List.take_length]
  rw [this]; rfl
/-! ### the example -/
abbrev f0 : SFeatures := ⟨(3 : Int), ([([116, 104, 101] : List UInt8), ([111, 114, 105, 103, 105, 110] : List UInt8), ([111, 102] : List UInt8), ([115, 112, 101, 99, 105, 101, 115] : List UInt8)] : List (List UInt8)), ([100, 97, 114, 119, 105, 110] : List UInt8), ([(1859 : Int)] : List Int), [], [], [], []⟩
abbrev k0 : List (List UInt8) := [([97, 32, 100, 97, 114, 119, 105, 110, 32, 116, 104, 101] : List UInt8), ([116, 32, 116, 104, 101, 32, 111, 114, 105, 103, 105, 110, 32, 111, 102] : List UInt8), ([121, 32, 49, 56, 53, 57, 32, 115, 112, 101, 99, 105, 101, 115] : List UInt8)]
theorem k0_eq : keys f0 = k0 := by decide +kernel
theorem t0_eq : ofR [f0] = ([⟨k0[0], [3]⟩, ⟨k0[1], [3]⟩, ⟨k0[2], [3]⟩], 0) := by decide +kernel
theorem t0_val : tabB [⟨k0[0], [3]⟩, ⟨k0[1], [3]⟩, ⟨k0[2], [3]⟩] = true := by decide +kernel
theorem f0_ok : FOk f0 := by
  refine ⟨⟨by decide, ?_⟩, by decide, by decide, ⟨by decide, ?_⟩, ⟨by decide, ?_⟩, ⟨by decide, ?_⟩, ⟨by decide, ?_⟩⟩ <;> decide
theorem awake_ok : m_law30_awake FU = some true := by
  have h1 : m_block_Of FU [f0] = some (ofR [f0]) := Of_ok (by decide) (fun f hf => by rw [List.mem_singleton] at hf; subst hf; exact f0_ok)
  have h2 : m_block_Keys FU f0 = some k0 := by rw [keys_ok f0_ok, k0_eq]
  have h3 : m_ref29_SameTexts FU k0 k0 = some true := by rw [sameT_ok (by decide)]; simp
  have h4 : m_block_Valid FU [⟨k0[0], [3]⟩, ⟨k0[1], [3]⟩, ⟨k0[2], [3]⟩] = some true := by
    rw [bval_ok ⟨by decide, by decide⟩, t0_val]
  unfold m_law30_awake
  rw [show m_block_Of FU _ = some (ofR [f0]) from h1, t0_eq, Option.bind_some]
  rw [show m_block_Keys FU _ = some k0 from h2]
  simp only [List.length_cons, List.length_nil, h4]
  show ((some k0).bind fun v3 => (m_ref29_SameTexts FU v3 k0).bind fun v4 => _) = _
  rw [Option.bind_some, h3]
  rfl

/-! ### few -/
def fq (f : SFeatures) : Bool := (m_ref29_Few FU f).getD false
theorem fq_ok {f : SFeatures} (h : FB f) : m_ref29_Few FU f = some (fq f) := by
  obtain ⟨b, hb⟩ := few_ok h
  unfold fq
  rw [hb]; rfl
def fewB (l : List SFeatures) : Bool := l.all fq && decide (l.length ≤ 8)
theorem lfew_ok {l : List SFeatures} (hl : l.length ≤ 1048576) (h : ∀ f ∈ l, FB f) : m_law30_few FU l = some (fewB l) := by
  unfold m_law30_few
  have e := iter_any (ρ := Bool ⊕ Unit) (f := fun s => m_law30_few_L1 FU l s) l.length FU (fun i => !fq (l.getD i default)) (.inl false) (.inr ()) (fun j hj => by
    have h0 : m_ref29_Few FU (⟨l[j].fID, l[j].fTitle, l[j].fAuthor, l[j].fYears, l[j].fIsbns, l[j].fLangs, l[j].fPublisher, l[j].fEdition⟩ : SFeatures) = some (fq l[j]) := fq_ok (h _ (List.getElem_mem hj))
    simp only [m_law30_few_L1]
    rw [if_pos (decide_eq_true (by omega)), ixL hj, Option.bind_some, h0, Option.bind_some, wadd1 hj (by simp only [ML]; omega), show l.getD j default = l[j] by simp [hj]]
    split <;> rfl) (by simp [m_law30_few_L1]) (by simp only [FU]; omega)
  rw [e, Option.bind_some, anyN_getD l default (fun f => !fq f), ← List.not_all_eq_any_not]
  unfold fewB
  have e2 : decide ((l.length : Int) ≤ 8) = decide (l.length ≤ 8) := by rw [decide_eq_decide]; omega
  rw [← e2]
  cases l.all fq <;> simp
/-- Records that have a table. -/
structure Gd (l : List SFeatures) : Prop where
  f : fewB l = true
  v : ∀ f ∈ l, fv f = true
  n : (ids l).Nodup
theorem Gd.len {l : List SFeatures} (h : Gd l) : l.length ≤ 8 := by
  have := h.f
  unfold fewB at this
  simp only [Bool.and_eq_true, decide_eq_true_eq] at this
  exact this.2
theorem Gd.ofR {l : List SFeatures} (h : Gd l) : ofR l = (ofT l, 0) := by
  unfold Ab.ofR
  rw [if_neg (by rw [List.all_eq_true.2 h.v]; simp), (dup_iff l).2 h.n, if_neg (by simp)]
theorem Gd.vt {l : List SFeatures} (g : Gd l) : VT (ofT l) := VT.ofT l g.v g.n
theorem Gd.tb {l : List SFeatures} (g : Gd l) : TBn (ofT l) 340 := by
  have h := TBn.ofT l
  have := g.len
  exact ⟨by have := h.n; omega, fun b hb => by have := h.i b hb; omega⟩
theorem Gd.pairs {l : List SFeatures} (g : Gd l) {n : Int} (h : 2 ≤ n) (h2 : n ≤ 1000) : m_block_Pairs FU (ofT l) n = some (pairsT (ofT l) n, 0) := by
  rw [Pairs_ok ⟨by have := g.tb.n; omega, fun b hb => by have := g.tb.i b hb; omega⟩]
  unfold pairsR
  rw [tabB_iff.2 g.vt, if_neg (by simp), if_neg (by omega)]
end
section
/- Laws of keys, changes and pairs, in plain Lean. Conditions: none. -/
open Go

theorem fewB_len {l : List SFeatures} (hf : fewB l = true) : l.length ≤ 8 := by
  unfold fewB at hf; simp only [Bool.and_eq_true, decide_eq_true_eq] at hf; exact hf.2
theorem ofR_tb {l : List SFeatures} (h : l.length ≤ 8) : TB (ofR l).1 := by
  unfold ofR
  split
  · exact ⟨by simp, by simp⟩
  · split
    · exact ⟨by simp, by simp⟩
    · exact (TBn.ofT l).tb (by omega)
theorem plain_BlockKeys {l : List SFeatures} (hl : l.length ≤ 1048576) (h : ∀ f ∈ l, FB f) : m_law30_BlockKeys FU l = some true := by
  unfold m_law30_BlockKeys
  rw [awake_ok, Option.bind_some, lfew_ok hl h]
  cases hf : fewB l with
  | false => rfl
  | true =>
    have h8 := fewB_len hf
    have hok : ∀ f ∈ l, FOk f := fun f hf => (h f hf).ok
    have ht := ofR_tb h8
    simp only [Bool.not_true, Bool.not_false, if_true, Option.bind_some, Bool.or_self, Bool.false_eq_true, if_false]
    rw [owns_ok h8, Option.bind_some, Of_ok h8 hok, Option.bind_some, rOf_ok h8 hok, Option.bind_some, theirs_ok (by have := ht.n; omega), Option.bind_some, same_ok ht, Option.bind_some, if_neg (by simp)]
    have e := iter_any (ρ := Bool ⊕ Unit) (f := fun s => m_law30_BlockKeys_L1 FU l s) l.length FU (fun _ => false) (.inl false) (.inr ()) (fun j hj => by
      have hf := hok _ (List.getElem_mem hj)
      simp only [m_law30_BlockKeys_L1]
      unfold m_law29_Own
      rw [if_pos (decide_eq_true (by omega)), ixL hj, Option.bind_some, Option.bind_some]
      have hk1 : m_block_Keys FU (⟨l[j].fID, l[j].fTitle, l[j].fAuthor, l[j].fYears, l[j].fIsbns, l[j].fLangs, l[j].fPublisher, l[j].fEdition⟩ : SFeatures) = some (keys l[j]) := keys_ok hf
      have hk2 : m_ref30_Keys FU (⟨l[j].fID, l[j].fTitle, l[j].fAuthor, l[j].fYears, l[j].fIsbns, l[j].fLangs, l[j].fPublisher, l[j].fEdition⟩ : SFeatures) = some (keys l[j]) := rkeys_ok hf
      rw [hk1, Option.bind_some, hk2, Option.bind_some, sameT_ok (by have := keys_len l[j]; omega), Option.bind_some, if_neg (by simp), wadd1 hj (by simp only [ML]; omega)]
      rfl) (by simp [m_law30_BlockKeys_L1]) (by simp only [FU]; omega)
    rw [e, anyN_f.2 (fun _ _ => rfl)]; rfl
end
section
/- The law of steps, in plain Lean. Conditions: none. -/
open Go

end
section
/- The law of meaning, in plain Lean. Conditions: none. -/
open Go

/-! ### how many records have a key -/
/-! ### the loops of the law -/
def hit (P : List SPair) (f h : SFeatures) : Bool := decide (f.fID < h.fID) && decide ((⟨f.fID, h.fID⟩ : SPair) ∈ P)
end
section
/- The law of growth, in plain Lean. Conditions: none. -/
open Go

end
end Go.Proofs.YtkdefjliknpliaaGreatDoor.Ab
