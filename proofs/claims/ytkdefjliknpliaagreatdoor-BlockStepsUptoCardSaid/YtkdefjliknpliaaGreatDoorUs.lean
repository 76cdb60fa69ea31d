/- Plain laws, joined. Conditions: none. -/
import Derived.Test.YtkdefjliknpliaaGreatDoorUn
namespace Go.Proofs.YtkdefjliknpliaaGreatDoor.Ab
section
/- What the laws are made of, in plain Lean. Conditions: none. -/
open Go

/-! ### lists that are the same -/
theorem same_gen {α : Type} [DecidableEq α] [Inhabited α] {a b : List α} {g : Int → Option (Int ⊕ (Bool ⊕ Unit))} (hl : a.length ≤ 100000000)
    (hg : ∀ (j : Nat) (h : j < a.length) (h2 : j < b.length), g (j : Int) = some (if a[j] = b[j] then .inl ((j + 1 : Nat) : Int) else .inr (.inl false))) (he : g (a.length : Int) = some (.inr (.inr ()))) :
    (if (!decide ((a.length : Int) = (b.length : Int))) = true then some false else (iter FU g (0 : Int)).bind fun t3 => match t3 with | (.inl u4) => some u4 | (.inr _) => some true) = some (decide (a = b)) := by
  by_cases hlen : a.length = b.length
  · rw [if_neg (by simp [hlen])]
    have := iter_any (ρ := Bool ⊕ Unit) (f := g) a.length FU (fun i => !decide (a.getD i default = b.getD i default)) (.inl false) (.inr ()) (fun j hj => by
      rw [hg j hj (by omega), show a.getD j default = a[j] by simp [hj], show b.getD j default = b[j] by simp [show j < b.length by omega]]
      by_cases h : a[j] = b[j]
      · rw [if_pos h, decide_eq_true h]; rfl
      · rw [if_neg h, decide_eq_false h]; rfl) he (by simp only [FU]; omega)
    rw [this, Option.bind_some]
    have e : anyN a.length (fun i => !decide (a.getD i default = b.getD i default)) = !decide (a = b) := by
      rw [Bool.eq_iff_iff, anyN_t]
      simp only [Bool.not_eq_true', decide_eq_false_iff_not]
      constructor
      · rintro ⟨i, _, h⟩ e; subst e; exact h rfl
      · intro h
        by_cases hh : ∃ i, i < a.length ∧ ¬ a.getD i default = b.getD i default
        · exact hh
        · exfalso; apply h
          refine List.ext_getElem hlen fun i h1 h2 => ?_
          have : a.getD i default = b.getD i default := Classical.byContradiction fun hc => hh ⟨i, h1, hc⟩
          simpa [h1, h2] using this
    rw [e]
    cases decide (a = b) <;> rfl
  · rw [if_pos (by simp; omega), decide_eq_false (fun e => hlen (by rw [e]))]
theorem sameI_ok {a b : List Int} (hl : a.length ≤ 100000000) : m_ref30_SameInts FU a b = some (decide (a = b)) :=
  same_gen hl (g := fun s => m_ref30_SameInts_L1 FU a b s) (fun j h h2 => by
    unfold m_ref30_SameInts_L1
    rw [if_pos (decide_eq_true (by omega)), ixL h, Option.bind_some, ixL h2, Option.bind_some, wadd1 h (by simp only [ML]; omega)]
    by_cases e : a[j] = b[j]
    · rw [if_neg (by simp [e]), if_pos e]
    · rw [if_pos (by simp [e]), if_neg e]) (by unfold m_ref30_SameInts_L1; simp)
theorem sameT_ok {a b : List (List UInt8)} (hl : a.length ≤ 100000000) : m_ref29_SameTexts FU a b = some (decide (a = b)) :=
  same_gen hl (g := fun s => m_ref29_SameTexts_L1 FU a b s) (fun j h h2 => by
    unfold m_ref29_SameTexts_L1
    rw [if_pos (decide_eq_true (by omega)), ixL h, Option.bind_some, ixL h2, Option.bind_some, wadd1 h (by simp only [ML]; omega)]
    by_cases e : a[j] = b[j]
    · rw [if_neg (by simp [e]), if_pos e]
    · rw [if_pos (by simp [e]), if_neg e]) (by unfold m_ref29_SameTexts_L1; simp)
theorem same_ok {a b : List SBlock} (hl : TB a) : m_ref30_Same FU a b = some (decide (a = b)) :=
  same_gen (by have := hl.n; omega) (g := fun s => m_ref30_Same_L1 FU a b s) (fun j h h2 => by
    have hn := hl.n
    have hi := hl.i _ (List.getElem_mem h)
    unfold m_ref30_Same_L1
    rw [if_pos (decide_eq_true (by omega)), ixL h, Option.bind_some, ixL h2, Option.bind_some, wadd1 h (by simp only [ML]; omega)]
    generalize a[j] = x at *
    generalize b[j] = y
    obtain ⟨k, m⟩ := x
    obtain ⟨k2, m2⟩ := y
    dsimp only at hi ⊢
    by_cases e : k = k2
    · subst e
      rw [decide_eq_true rfl]
      simp only [Bool.not_true, Bool.not_false, if_true, Option.bind_some, sameI_ok (show m.length ≤ 100000000 by omega), Bool.false_or]
      by_cases e2 : m = m2
      · rw [decide_eq_true e2, if_neg (by simp), if_pos (by rw [e2])]
      · rw [decide_eq_false e2, if_pos (by simp), if_neg (by simp [e2])]
    · rw [decide_eq_false e]
      simp only [Bool.not_false, Bool.not_true, Bool.false_eq_true, if_false, Option.bind_some, Bool.true_or, if_true]
      rw [if_neg (by simp [e])]) (by unfold m_ref30_Same_L1; simp)
theorem own_ok {t : List SBlock} (h : t.length ≤ 2000000) : m_law30_Own FU t = some t := by
  unfold m_law30_Own
  have : iter FU (fun s => m_law30_Own_L1 FU t s.1 s.2) (([] : List SBlock), (0 : Int)) = some t := by
    refine iter_to (f := fun s => m_law30_Own_L1 FU t s.1 s.2) (fun j => (t.take j, (j : Int))) t.length FU _ (fun j hj => ?_) ?_ (by simp only [FU]; omega) rfl
    · simp only [m_law30_Own_L1]
      rw [if_pos (decide_eq_true (by omega)), ixL hj, Option.bind_some, app_one (by simp; omega) (by simp; omega), Option.bind_some, wadd1 hj (by simp only [ML]; omega), take_snocL hj]
    · simp only [m_law30_Own_L1]; rw [if_neg (by simp), List.take_length]
  rw [this]; rfl
theorem theirs_ok {t : List SBlock} (h : t.length ≤ 2000000) : m_law30_Theirs FU t = some t := own_ok h
theorem owns_ok {l : List SFeatures} (h : l.length ≤ 8) : m_law29_Owns FU l = some l := by
  unfold m_law29_Owns
  have : iter FU (fun s => m_law29_Owns_L1 FU l s.1 s.2) (([] : List SFeatures), (0 : Int)) = some l := by
    refine iter_to (f := fun s => m_law29_Owns_L1 FU l s.1 s.2) (fun j => (l.take j, (j : Int))) l.length FU _ (fun j hj => ?_) ?_ (by simp only [FU]; omega) rfl
    · simp only [m_law29_Owns_L1]
      unfold m_law29_Own
      rw [if_pos (decide_eq_true (by omega)), ixL hj, Option.bind_some, Option.bind_some, app_one (by simp; omega) (by simp; omega), Option.bind_some, wadd1 hj (by simp only [ML]; omega), take_snocL hj]
    · simp only [m_law29_Owns_L1]; rw [if_neg (by simp), List.take_length]
  rw [this]; rfl
theorem lsame_ok {a b : List SBlock} (ha : TB a) (hb : b.length ≤ 2000000) : m_law30_same FU a b = some (decide (a = b)) := by
  unfold m_law30_same
  rw [theirs_ok (by have := ha.n; omega), Option.bind_some, theirs_ok hb, Option.bind_some, same_ok ha]; rfl

/-! ### the example -/
abbrev f0 : SFeatures := ⟨(3 : Int), ([([116, 104, 101] : List UInt8), ([111, 114, 105, 103, 105, 110] : List UInt8), ([111, 102] : List UInt8), ([115, 112, 101, 99, 105, 101, 115] : List UInt8)] : List (List UInt8)), ([100, 97, 114, 119, 105, 110] : List UInt8), ([(1859 : Int)] : List Int), [], [], [], []⟩
abbrev k0 : List (List UInt8) := [([97, 32, 100, 97, 114, 119, 105, 110, 32, 116, 104, 101] : List UInt8), ([116, 32, 116, 104, 101, 32, 111, 114, 105, 103, 105, 110, 32, 111, 102] : List UInt8), ([121, 32, 49, 56, 53, 57, 32, 115, 112, 101, 99, 105, 101, 115] : List UInt8)]
theorem k0_eq : keys f0 = k0 := by decide +kernel
theorem t0_eq : ofR [f0] = ([⟨k0[0], [3]⟩, ⟨k0[1], [3]⟩, ⟨k0[2], [3]⟩], 0) := by decide +kernel
theorem t0_val : tabB [⟨k0[0], [3]⟩, ⟨k0[1], [3]⟩, ⟨k0[2], [3]⟩] = true := by decide +kernel
theorem f0_ok : FOk f0 := by
  refine ⟨⟨by decide, ?_⟩, by decide, by decide, ⟨by decide, ?_⟩, ⟨by decide, ?_⟩, ⟨by decide, ?_⟩, ⟨by decide, ?_⟩⟩ <;> decide
theorem awake_ok : m_law30_awake FU = some true := by
  have h1 : m_block_Of FU [f0] = some (ofR [f0]) := Of_ok (by decide) (fun f hf => by rw [List.mem_singleton] at hf; subst hf; exact f0_ok)
  have h2 : m_block_Keys FU f0 = some k0 := by rw [keys_ok f0_ok, k0_eq]
  have h3 : m_ref29_SameTexts FU k0 k0 = some true := by rw [sameT_ok (by decide)]; simp
  have h4 : m_block_Valid FU [⟨k0[0], [3]⟩, ⟨k0[1], [3]⟩, ⟨k0[2], [3]⟩] = some true := by
    rw [bval_ok ⟨by decide, by decide⟩, t0_val]
  unfold m_law30_awake
  rw [show m_block_Of FU _ = some (ofR [f0]) from h1, t0_eq, Option.bind_some]
  rw [show m_block_Keys FU _ = some k0 from h2]
  simp only [List.length_cons, List.length_nil, h4]
  show ((some k0).bind fun v3 => (m_ref29_SameTexts FU v3 k0).bind fun v4 => _) = _
  rw [Option.bind_some, h3]
  rfl

/-! ### few -/
def fq (f : SFeatures) : Bool := (m_ref29_Few FU f).getD false
theorem fq_ok {f : SFeatures} (h : FB f) : m_ref29_Few FU f = some (fq f) := by
  obtain ⟨b, hb⟩ := few_ok h
  unfold fq
  rw [hb]; rfl
def fewB (l : List SFeatures) : Bool := l.all fq && decide (l.length ≤ 8)
theorem lfew_ok {l : List SFeatures} (hl : l.length ≤ 1048576) (h : ∀ f ∈ l, FB f) : m_law30_few FU l = some (fewB l) := by
  unfold m_law30_few
  have e := iter_any (ρ := Bool ⊕ Unit) (f := fun s => m_law30_few_L1 FU l s) l.length FU (fun i => !fq (l.getD i default)) (.inl false) (.inr ()) (fun j hj => by
    have h0 : m_ref29_Few FU (⟨l[j].fID, l[j].fTitle, l[j].fAuthor, l[j].fYears, l[j].fIsbns, l[j].fLangs, l[j].fPublisher, l[j].fEdition⟩ : SFeatures) = some (fq l[j]) := fq_ok (h _ (List.getElem_mem hj))
    simp only [m_law30_few_L1]
    rw [if_pos (decide_eq_true (by omega)), ixL hj, Option.bind_some, h0, Option.bind_some, wadd1 hj (by simp only [ML]; omega), show l.getD j default = l[j] by simp [hj]]
    split <;> rfl) (by simp [m_law30_few_L1]) (by simp only [FU]; omega)
  rw [e, Option.bind_some, anyN_getD l default (fun f => !fq f), ← List.not_all_eq_any_not]
  unfold fewB
  have e2 : decide ((l.length : Int) ≤ 8) = decide (l.length ≤ 8) := by rw [decide_eq_decide]; omega
  rw [← e2]
  cases l.all fq <;> simp
theorem fewB_sub {l m : List SFeatures} (h : fewB l = true) (hm : ∀ f ∈ m, f ∈ l) (hl : m.length ≤ l.length) : fewB m = true := by
  unfold fewB at *
  simp only [Bool.and_eq_true, List.all_eq_true, decide_eq_true_eq] at *
  exact ⟨fun f hf => h.1 f (hm f hf), by omega⟩
/-- Records that have a table. -/
structure Gd (l : List SFeatures) : Prop where
  f : fewB l = true
  v : ∀ f ∈ l, fv f = true
  n : (ids l).Nodup
theorem Gd.len {l : List SFeatures} (h : Gd l) : l.length ≤ 8 := by
  have := h.f
  unfold fewB at this
  simp only [Bool.and_eq_true, decide_eq_true_eq] at this
  exact this.2
theorem Gd.ofR {l : List SFeatures} (h : Gd l) : ofR l = (ofT l, 0) := by
  unfold Ab.ofR
  rw [if_neg (by rw [List.all_eq_true.2 h.v]; simp), (dup_iff l).2 h.n, if_neg (by simp)]
theorem gd_of {l : List SFeatures} (hf : fewB l = true) (h : (ofR l).2 = 0) : Gd l := by
  unfold ofR at h
  cases hv : l.all fv with
  | false => rw [hv, if_pos rfl] at h; cases h
  | true =>
    rw [hv, if_neg (by simp)] at h
    cases hd : dup l with
    | true => rw [hd, if_pos rfl] at h; cases h
    | false => exact ⟨hf, List.all_eq_true.1 hv, (dup_iff l).1 hd⟩
theorem good_ok {l : List SFeatures} (hl : l.length ≤ 1048576) (h : ∀ f ∈ l, FB f) : ∃ b, m_law30_good FU l = some b ∧ (b = true → Gd l) := by
  unfold m_law30_good
  rw [lfew_ok hl h, Option.bind_some]
  cases hf : fewB l with
  | false => exact ⟨false, rfl, fun h => by cases h⟩
  | true =>
    have h8 : l.length ≤ 8 := by unfold fewB at hf; simp only [Bool.and_eq_true, decide_eq_true_eq] at hf; exact hf.2
    rw [if_neg (by simp), rOf_ok h8 (fun f hf => (h f hf).ok), Option.bind_some]
    exact ⟨_, rfl, fun hb => gd_of hf (by simpa using hb)⟩
theorem table_ok {l : List SFeatures} (g : Gd l) (h : ∀ f ∈ l, FB f) : m_law30_table FU l = some (ofT l, true) := by
  have h8 := g.len
  unfold m_law30_table
  rw [lfew_ok (by omega) h, Option.bind_some, g.f, if_neg (by simp), rOf_ok h8 (fun f hf => (h f hf).ok), Option.bind_some, g.ofR, if_neg (by simp), owns_ok h8, Option.bind_some, Of_ok h8 (fun f hf => (h f hf).ok), Option.bind_some, g.ofR]; rfl
theorem Gd.vt {l : List SFeatures} (g : Gd l) : VT (ofT l) := VT.ofT l g.v g.n
theorem Gd.tb {l : List SFeatures} (g : Gd l) : TBn (ofT l) 340 := by
  have h := TBn.ofT l
  have := g.len
  exact ⟨by have := h.n; omega, fun b hb => by have := h.i b hb; omega⟩
theorem Gd.pairs {l : List SFeatures} (g : Gd l) {n : Int} (h : 2 ≤ n) (h2 : n ≤ 1000) : m_block_Pairs FU (ofT l) n = some (pairsT (ofT l) n, 0) := by
  rw [Pairs_ok ⟨by have := g.tb.n; omega, fun b hb => by have := g.tb.i b hb; omega⟩]
  unfold pairsR
  rw [tabB_iff.2 g.vt, if_neg (by simp), if_neg (by omega)]
end
section
/- Laws of keys, changes and pairs, in plain Lean. Conditions: none. -/
open Go

end
section
/- The law of steps, in plain Lean. Conditions: none. -/
open Go

theorem remN {a b : Nat} (hb : 0 < b) : rem (a : Int) (b : Int) = some ((a % b : Nat) : Int) := by
  unfold rem
  rw [if_neg (by omega)]
  rfl
theorem u8_rem {a : Int} (h : 0 ≤ a ∧ a ≤ 255) {b : Nat} (hb : 0 < b) : ∃ k : Nat, k < b ∧ rem (IntKind.i64.wrap a) (b : Int) = some (k : Int) := by
  refine ⟨a.toNat % b, Nat.mod_lt _ hb, ?_⟩
  rw [w64 (by omega) (by omega)]
  have := remN (a := a.toNat) hb
  rw [show ((a.toNat : Nat) : Int) = a by omega] at this
  exact this
theorem ids_mem {l : List SFeatures} {x : Int} : x ∈ ids l ↔ ∃ f ∈ l, f.fID = x := by unfold ids; rw [List.mem_map]
theorem ids_inj {l : List SFeatures} (h : (ids l).Nodup) {i j : Nat} (hi : i < l.length) (hj : j < l.length) (e : l[i].fID = l[j].fID) : i = j := by
  rcases Nat.lt_trichotomy i j with hl | hl | hl
  · have := List.pairwise_iff_getElem.1 h i j (by simpa using hi) (by simpa using hj) hl
    simp only [ids, List.getElem_map] at this
    exact absurd e this
  · exact hl
  · have := List.pairwise_iff_getElem.1 h j i (by simpa using hj) (by simpa using hi) hl
    simp only [ids, List.getElem_map] at this
    exact absurd e.symm this
/-- The turn that the law takes. -/
def tI (l : List SFeatures) (k i : Nat) : Nat := (k + l.length - i) % l.length
theorem tI_lt {l : List SFeatures} {k i : Nat} (h : 0 < l.length) : tI l k i < l.length := Nat.mod_lt _ h
theorem tI_eq {l : List SFeatures} {k i : Nat} (hk : k < l.length) (hi : i < l.length) : tI l k i = if i ≤ k then k - i else k + l.length - i := by
  unfold tI
  split
  · rw [show k + l.length - i = (k - i) + l.length by omega, Nat.add_mod_right, Nat.mod_eq_of_lt (by omega)]
  · rw [Nat.mod_eq_of_lt (by omega)]
def tL (l : List SFeatures) (k i : Nat) : List SFeatures := (List.range i).map fun i => l.getD (tI l k i) default
theorem tL_succ {l : List SFeatures} {k i : Nat} (h : 0 < l.length) : tL l k (i + 1) = tL l k i ++ [l[tI l k i]'(tI_lt h)] := by
  unfold tL
  rw [List.range_succ, List.map_append, List.map_singleton, show l.getD (tI l k i) default = l[tI l k i]'(tI_lt h) by simp [tI_lt h]]
theorem tL_mem {l : List SFeatures} {k : Nat} (hk : k < l.length) {i : Nat} (_hi : i ≤ l.length) {f : SFeatures} : f ∈ tL l k i ↔ ∃ j, j < i ∧ ∃ h : tI l k j < l.length, l[tI l k j] = f := by
  unfold tL
  rw [List.mem_map]
  constructor
  · rintro ⟨j, hj, rfl⟩
    have hlt : tI l k j < l.length := tI_lt (by omega)
    exact ⟨j, List.mem_range.1 hj, hlt, by simp [hlt]⟩
  · rintro ⟨j, hj, h, rfl⟩
    exact ⟨j, List.mem_range.2 hj, by simp [h]⟩
theorem tL_new {l : List SFeatures} (g : Gd l) {k i : Nat} (hk : k < l.length) (hi : i < l.length) : (l[tI l k i]'(tI_lt (by omega))).fID ∉ ids (tL l k i) := by
  rw [ids_mem]
  rintro ⟨f, hf, e⟩
  obtain ⟨j, hj, hlt, rfl⟩ := (tL_mem hk (by omega)).1 hf
  have := ids_inj g.n hlt (tI_lt (by omega)) e
  rw [tI_eq hk (by omega), tI_eq hk hi] at this
  split at this <;> split at this <;> omega
theorem tL_gd {l : List SFeatures} (g : Gd l) {k : Nat} (hk : k < l.length) : ∀ {i : Nat}, i ≤ l.length → Gd (tL l k i)
  | 0, _ => ⟨by simp [fewB, tL], by simp [tL], by simp [tL, ids]⟩
  | i + 1, hi => by
    have ih := tL_gd g hk (i := i) (by omega)
    rw [tL_succ (by omega)]
    refine ⟨fewB_sub g.f (fun f hf => ?_) (by simp [tL]; omega), fun f hf => ?_, ?_⟩
    · rw [← tL_succ (by omega)] at hf
      obtain ⟨j, _, h, rfl⟩ := (tL_mem hk hi).1 hf
      exact List.getElem_mem h
    · rw [← tL_succ (by omega)] at hf
      obtain ⟨j, _, h, rfl⟩ := (tL_mem hk hi).1 hf
      exact g.v _ (List.getElem_mem h)
    · unfold ids
      rw [List.map_append, List.map_singleton, nd_snoc]
      exact ⟨ih.n, tL_new g hk (by omega)⟩
theorem tL_all {l : List SFeatures} {k : Nat} (hk : k < l.length) {f : SFeatures} : f ∈ tL l k l.length ↔ f ∈ l := by
  rw [tL_mem hk (Nat.le_refl _)]
  constructor
  · rintro ⟨j, _, h, rfl⟩; exact List.getElem_mem h
  · intro hf
    obtain ⟨j, hj, rfl⟩ := List.getElem_of_mem hf
    have e : tI l k (if j ≤ k then k - j else k + l.length - j) = j := by
      rw [tI_eq hk (by split <;> omega)]
      split <;> split <;> omega
    exact ⟨if j ≤ k then k - j else k + l.length - j, by split <;> omega, by rw [e]; exact hj, by simp only [e]⟩
theorem ofT_same {l m : List SFeatures} (gl : Gd l) (gm : Gd m) (h : ∀ f, f ∈ l ↔ f ∈ m) : ofT l = ofT m := gl.vt.ext gm.vt fun s x => by
  rw [mem_ofT, mem_ofT]
  exact exists_congr fun f => by rw [h]
theorem u8_cases {n : Nat} {f : SFeatures} : m_law29_Own n f = some f := rfl
theorem plain_BlockSteps {l : List SFeatures} {a : Int} (hl : l.length ≤ 1048576) (h : ∀ f ∈ l, FB f) (ha : 0 ≤ a ∧ a ≤ 255) : m_law30_BlockSteps FU l a = some true := by
  unfold m_law30_BlockSteps
  obtain ⟨b, hb, hg⟩ := good_ok hl h
  rw [awake_ok, Option.bind_some, hb]
  cases b with
  | false => rfl
  | true =>
    have g := hg rfl
    have h8 := g.len
    simp only [Bool.not_true, Bool.not_false, if_true, Option.bind_some, Bool.false_or]
    by_cases h0 : l.length = 0
    · rw [if_pos (by simp [h0])]
    · have hpos : 0 < l.length := by omega
      obtain ⟨k, hk, hrem⟩ := u8_rem ha hpos
      rw [if_neg (by rw [decide_eq_true_eq]; omega), table_ok g h, Option.bind_some, hrem, Option.bind_some]
      have e : iter FU (fun s => m_law30_BlockSteps_L1 FU l (k : Int) s.1 s.2) (([] : List SBlock), (0 : Int)) = some (.inr (ofT (tL l k l.length))) := by
        refine iter_to (f := fun s => m_law30_BlockSteps_L1 FU l (k : Int) s.1 s.2) (fun j => (ofT (tL l k j), (j : Int))) l.length FU _ (fun j hj => ?_) ?_ (by simp only [FU]; omega) rfl
        · simp only [m_law30_BlockSteps_L1]
          have gj := tL_gd g hk (i := j) (by omega)
          have hlt : tI l k j < l.length := tI_lt hpos
          have hb := gj.tb
          have hr : rem (IntKind.i64.wrap ((IntKind.i64.wrap ((k : Int) + (l.length : Int))) - (j : Int))) (l.length : Int) = some ((tI l k j : Nat) : Int) := by
            rw [w64 (x := (k : Int) + (l.length : Int)) (by omega) (by omega), w64 (by omega) (by omega), show (k : Int) + (l.length : Int) - (j : Int) = ((k + l.length - j : Nat) : Int) by omega]
            exact remN hpos
          rw [if_pos (decide_eq_true (by omega)), hr, Option.bind_some, ixL hlt, Option.bind_some, u8_cases, Option.bind_some, Put_ok ⟨by have := hb.n; omega, fun b hb' => by have := hb.i b hb'; omega⟩ (h _ (List.getElem_mem hlt)).ok, Option.bind_some,
            putR_of gj.v gj.n (g.v _ (List.getElem_mem hlt)) (tL_new g hk hj), if_neg (by simp), wadd1 hj (by simp only [ML]; omega), tL_succ hpos, ofT_snoc]
        · simp only [m_law30_BlockSteps_L1]; rw [if_neg (by simp)]
      have gt := tL_gd g hk (Nat.le_refl _)
      have htb : TBn (ofT l) 340 := g.tb
      rw [e, Option.bind_some]
      dsimp only
      rw [ofT_same gt g (fun f => tL_all hk)]
      simp only [Bool.not_true, Bool.not_false, if_true]
      rw [lsame_ok (htb.tb (by omega)) (by have := htb.n; omega), Option.bind_some, if_neg (by simp), ixL hk, Option.bind_some, Drop_ok (htb.tb (by omega)), Option.bind_some]
      unfold dropR
      rw [tabB_iff.2 g.vt, if_neg (c := true = false) (by simp)]
      cases hh : hasT (ofT l) l[k].fID with
      | false =>
        rw [if_pos rfl, if_pos (by simp), Option.bind_some, u8_cases, Option.bind_some, keys_ok (h _ (List.getElem_mem hk)).ok, Option.bind_some]
        have : keys l[k] = [] := by
          cases hks : keys l[k] with
          | nil => rfl
          | cons s r =>
            exact absurd ((mem_ofT l).2 ⟨l[k], List.getElem_mem hk, by rw [hks]; simp, rfl⟩) (not_mem hh s)
        rw [this]; rfl
      | true =>
        rw [if_neg (c := true = false) (by simp), if_neg (by simp)]
        have hs1 : slc l (0 : Int) (k : Int) = some (l.take k) := by
          unfold slc; rw [if_pos (by omega)]; simp
        have hs2 : slc l (IntKind.i64.wrap ((k : Int) + 1)) (l.length : Int) = some (l.drop (k + 1)) := by
          rw [wadd1 hk (by simp only [ML]; omega)]; exact slc_tail (by omega) rfl
        rw [hs1, Option.bind_some, app_eq (by simp; omega) (by simp; omega), Option.bind_some, hs2, Option.bind_some, app_eq (by simp; omega) (by simp; omega), Option.bind_some, List.nil_append]
        have hsub : List.Sublist (l.take k ++ l.drop (k + 1)) l := by
          have h1 : List.Sublist (l.drop (k + 1)) (l.drop k) := by rw [List.drop_eq_getElem_cons hk]; exact List.sublist_cons_self _ _
          have h2 := List.Sublist.append (List.Sublist.refl (l.take k)) h1
          rw [List.take_append_drop] at h2
          exact h2
        have g2 : Gd (l.take k ++ l.drop (k + 1)) := ⟨fewB_sub g.f (fun f hf => hsub.subset hf) hsub.length_le, fun f hf => g.v f (hsub.subset hf), g.n.sublist (hsub.map _)⟩
        have hmem : ∀ f, f ∈ l.take k ++ l.drop (k + 1) ↔ f ∈ l ∧ f.fID ≠ l[k].fID := fun f => by
          constructor
          · intro hf
            refine ⟨hsub.subset hf, fun e => ?_⟩
            have hn : (ids (l.take k ++ l[k] :: l.drop (k + 1))).Nodup := by
              rw [← List.drop_eq_getElem_cons hk, List.take_append_drop]; exact g.n
            unfold ids at hn
            rw [List.map_append, List.map_cons] at hn
            have hp := (List.perm_middle (a := l[k].fID) (l₁ := (l.take k).map (·.fID)) (l₂ := (l.drop (k + 1)).map (·.fID))).nodup_iff.1 hn
            refine (List.nodup_cons.1 hp).1 ?_
            rw [← List.map_append]
            exact List.mem_map.2 ⟨f, hf, e⟩
          · rintro ⟨hf, hne⟩
            rw [← List.take_append_drop k l, List.drop_eq_getElem_cons hk, List.mem_append, List.mem_cons] at hf
            rw [List.mem_append]
            rcases hf with hf | rfl | hf
            · exact .inl hf
            · exact absurd rfl hne
            · exact .inr hf
        have heq : dropT (ofT l) l[k].fID = ofT (l.take k ++ l.drop (k + 1)) := g.vt.dropT.ext g2.vt fun s x => by
          rw [mem_dropT, mem_ofT, mem_ofT]
          constructor
          · rintro ⟨⟨f, hf, h1, h2⟩, h3⟩; exact ⟨f, (hmem f).2 ⟨hf, by rw [← h2]; exact h3⟩, h1, h2⟩
          · rintro ⟨f, hf, h1, h2⟩
            have := (hmem f).1 hf
            exact ⟨⟨f, this.1, h1, h2⟩, by rw [h2]; exact this.2⟩
        have hb2 := g2.tb
        rw [table_ok g2 (fun f hf => h f (hsub.subset hf)), Option.bind_some]
        dsimp only
        rw [heq, if_pos (by simp), lsame_ok (hb2.tb (by omega)) (by have := hb2.n; omega)]
        simp
end
section
/- The law of meaning, in plain Lean. Conditions: none. -/
open Go

/-! ### how many records have a key -/
/-! ### the loops of the law -/
def hit (P : List SPair) (f h : SFeatures) : Bool := decide (f.fID < h.fID) && decide ((⟨f.fID, h.fID⟩ : SPair) ∈ P)
end
section
/- The law of growth, in plain Lean. Conditions: none. -/
open Go

end
end Go.Proofs.YtkdefjliknpliaaGreatDoor.Ab
