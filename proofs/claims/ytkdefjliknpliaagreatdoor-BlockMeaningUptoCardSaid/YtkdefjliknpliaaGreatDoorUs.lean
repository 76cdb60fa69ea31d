/- Plain laws, joined. Conditions: none. -/
import Derived.Test.YtkdefjliknpliaaGreatDoorUn
namespace Go.Proofs.YtkdefjliknpliaaGreatDoor.Ab
section
/- What the laws are made of, in plain Lean. Conditions: none. -/
open Go

/-! ### lists that are the same -/
theorem same_gen {α : Type} [DecidableEq α] [Inhabited α] {a b : List α} {g : Int → Option (Int ⊕ (Bool ⊕ Unit))} (hl : a.length ≤ 100000000)
    (hg : ∀ (j : Nat) (h : j < a.length) (h2 : j < b.length), g (j : Int) = some (if a[j] = b[j] then .inl ((j + 1 : Nat) : Int) else .inr (.inl false))) (he : g (a.length : Int) = some (.inr (.inr ()))) :
    (if (!decide ((a.length : Int) = (b.length : Int))) = true then some false else (iter FU g (0 : Int)).bind fun t3 => match t3 with | (.inl u4) => some u4 | (.inr _) => some true) = some (decide (a = b)) := by
  by_cases hlen : a.length = b.length
  · rw [if_neg (by simp [hlen])]
    have := iter_any (ρ := Bool ⊕ Unit) (f := g) a.length FU (fun i => !decide (a.getD i default = b.getD i default)) (.inl false) (.inr ()) (fun j hj => by
      rw [hg j hj (by omega), show a.getD j default = a[j] by simp [hj], show b.getD j default = b[j] by simp [show j < b.length by omega]]
      by_cases h : a[j] = b[j]
      · rw [if_pos h, decide_eq_true h]; rfl
      · rw [if_neg h, decide_eq_false h]; rfl) he (by simp only [FU]; omega)
    rw [this, Option.bind_some]
    have e : anyN a.length (fun i => !decide (a.getD i default = b.getD i default)) = !decide (a = b) := by
      rw [Bool.eq_iff_iff, anyN_t]
      simp only [Bool.not_eq_true', decide_eq_false_iff_not]
      constructor
      · rintro ⟨i, _, h⟩ e; subst e; exact h rfl
      · intro h
        by_cases hh : ∃ i, i < a.length ∧ ¬ a.getD i default = b.getD i default
        · exact hh
        · exfalso; apply h
          refine List.ext_getElem hlen fun i h1 h2 => ?_
          have : a.getD i default = b.getD i default := Classical.byContradiction fun hc => hh ⟨i, h1, hc⟩
          simpa [h1, h2] using this
    rw [e]
    cases decide (a = b) <;> rfl
  · rw [if_pos (by simp; omega), decide_eq_false (fun e => hlen (by rw [e]))]
theorem sameT_ok {a b : List (List UInt8)} (hl : a.length ≤ 100000000) : m_ref29_SameTexts FU a b = some (decide (a = b)) :=
  same_gen hl (g := fun s => m_ref29_SameTexts_L1 FU a b s) (fun j h h2 => by
    unfold m_ref29_SameTexts_L1
    rw [if_pos (decide_eq_true (by omega)), ixL h, Option.bind_some, ixL h2, Option.bind_some, wadd1 h (by simp only [ML]; omega)]
    by_cases e : a[j] = b[j]
    · rw [if_neg (by simp [e]), if_pos e]
    · rw [if_pos (by simp [e]), if_neg e]) (by unfold m_ref29_SameTexts_L1; simp)
theorem owns_ok {l : List SFeatures} (h : l.length ≤ 8) : m_law29_Owns FU l = some l := by
  unfold m_law29_Owns
  have : iter FU (fun s => m_law29_Owns_L1 FU l s.1 s.2) (([] : List SFeatures), (0 : Int)) = some l := by
    refine iter_to (f := fun s => m_law29_Owns_L1 FU l s.1 s.2) (fun j => (l.take j, (j : Int))) l.length FU _ (fun j hj => ?_) ?_ (by simp only [FU]; omega) rfl
    · simp only [m_law29_Owns_L1]
      unfold m_law29_Own
      rw [if_pos (decide_eq_true (by omega)), ixL hj, Option.bind_some, Option.bind_some, app_one (by simp; omega) (by simp; omega), Option.bind_some, wadd1 hj (by simp only [ML]; omega), take_snocL hj]
    · simp only [m_law29_Owns_L1]; rw [if_neg (by simp), List.take_length]
  rw [this]; rfl
/-! ### the example -/
abbrev f0 : SFeatures := ⟨(3 : Int), ([([116, 104, 101] : List UInt8), ([111, 114, 105, 103, 105, 110] : List UInt8), ([111, 102] : List UInt8), ([115, 112, 101, 99, 105, 101, 115] : List UInt8)] : List (List UInt8)), ([100, 97, 114, 119, 105, 110] : List UInt8), ([(1859 : Int)] : List Int), [], [], [], []⟩
abbrev k0 : List (List UInt8) := [([97, 32, 100, 97, 114, 119, 105, 110, 32, 116, 104, 101] : List UInt8), ([116, 32, 116, 104, 101, 32, 111, 114, 105, 103, 105, 110, 32, 111, 102] : List UInt8), ([121, 32, 49, 56, 53, 57, 32, 115, 112, 101, 99, 105, 101, 115] : List UInt8)]
theorem k0_eq : keys f0 = k0 := by decide +kernel
theorem t0_eq : ofR [f0] = ([⟨k0[0], [3]⟩, ⟨k0[1], [3]⟩, ⟨k0[2], [3]⟩], 0) := by decide +kernel
theorem t0_val : tabB [⟨k0[0], [3]⟩, ⟨k0[1], [3]⟩, ⟨k0[2], [3]⟩] = true := by decide +kernel
theorem f0_ok : FOk f0 := by
  refine ⟨⟨by decide, ?_⟩, by decide, by decide, ⟨by decide, ?_⟩, ⟨by decide, ?_⟩, ⟨by decide, ?_⟩, ⟨by decide, ?_⟩⟩ <;> decide
theorem awake_ok : m_law30_awake FU = some true := by
  have h1 : m_block_Of FU [f0] = some (ofR [f0]) := Of_ok (by decide) (fun f hf => by rw [List.mem_singleton] at hf; subst hf; exact f0_ok)
  have h2 : m_block_Keys FU f0 = some k0 := by rw [keys_ok f0_ok, k0_eq]
  have h3 : m_ref29_SameTexts FU k0 k0 = some true := by rw [sameT_ok (by decide)]; simp
  have h4 : m_block_Valid FU [⟨k0[0], [3]⟩, ⟨k0[1], [3]⟩, ⟨k0[2], [3]⟩] = some true := by
    rw [bval_ok ⟨by decide, by decide⟩, t0_val]
  unfold m_law30_awake
  rw [show m_block_Of FU _ = some (ofR [f0]) from h1, t0_eq, Option.bind_some]
  rw [show m_block_Keys FU _ = some k0 from h2]
  simp only [List.length_cons, List.length_nil, h4]
  show ((some k0).bind fun v3 => (m_ref29_SameTexts FU v3 k0).bind fun v4 => _) = _
  rw [Option.bind_some, h3]
  rfl

/-! ### few -/
def fq (f : SFeatures) : Bool := (m_ref29_Few FU f).getD false
theorem fq_ok {f : SFeatures} (h : FB f) : m_ref29_Few FU f = some (fq f) := by
  obtain ⟨b, hb⟩ := few_ok h
  unfold fq
  rw [hb]; rfl
def fewB (l : List SFeatures) : Bool := l.all fq && decide (l.length ≤ 8)
theorem lfew_ok {l : List SFeatures} (hl : l.length ≤ 1048576) (h : ∀ f ∈ l, FB f) : m_law30_few FU l = some (fewB l) := by
  unfold m_law30_few
  have e := iter_any (ρ := Bool ⊕ Unit) (f := fun s => m_law30_few_L1 FU l s) l.length FU (fun i => !fq (l.getD i default)) (.inl false) (.inr ()) (fun j hj => by
    have h0 : m_ref29_Few FU (⟨l[j].fID, l[j].fTitle, l[j].fAuthor, l[j].fYears, l[j].fIsbns, l[j].fLangs, l[j].fPublisher, l[j].fEdition⟩ : SFeatures) = some (fq l[j]) := fq_ok (h _ (List.getElem_mem hj))
    simp only [m_law30_few_L1]
    rw [if_pos (decide_eq_true (by omega)), ixL hj, Option.bind_some, h0, Option.bind_some, wadd1 hj (by simp only [ML]; omega), show l.getD j default = l[j] by simp [hj]]
    split <;> rfl) (by simp [m_law30_few_L1]) (by simp only [FU]; omega)
  rw [e, Option.bind_some, anyN_getD l default (fun f => !fq f), ← List.not_all_eq_any_not]
  unfold fewB
  have e2 : decide ((l.length : Int) ≤ 8) = decide (l.length ≤ 8) := by rw [decide_eq_decide]; omega
  rw [← e2]
  cases l.all fq <;> simp
/-- Records that have a table. -/
structure Gd (l : List SFeatures) : Prop where
  f : fewB l = true
  v : ∀ f ∈ l, fv f = true
  n : (ids l).Nodup
theorem Gd.len {l : List SFeatures} (h : Gd l) : l.length ≤ 8 := by
  have := h.f
  unfold fewB at this
  simp only [Bool.and_eq_true, decide_eq_true_eq] at this
  exact this.2
theorem Gd.ofR {l : List SFeatures} (h : Gd l) : ofR l = (ofT l, 0) := by
  unfold Ab.ofR
  rw [if_neg (by rw [List.all_eq_true.2 h.v]; simp), (dup_iff l).2 h.n, if_neg (by simp)]
theorem gd_of {l : List SFeatures} (hf : fewB l = true) (h : (ofR l).2 = 0) : Gd l := by
  unfold ofR at h
  cases hv : l.all fv with
  | false => rw [hv, if_pos rfl] at h; cases h
  | true =>
    rw [hv, if_neg (by simp)] at h
    cases hd : dup l with
    | true => rw [hd, if_pos rfl] at h; cases h
    | false => exact ⟨hf, List.all_eq_true.1 hv, (dup_iff l).1 hd⟩
theorem good_ok {l : List SFeatures} (hl : l.length ≤ 1048576) (h : ∀ f ∈ l, FB f) : ∃ b, m_law30_good FU l = some b ∧ (b = true → Gd l) := by
  unfold m_law30_good
  rw [lfew_ok hl h, Option.bind_some]
  cases hf : fewB l with
  | false => exact ⟨false, rfl, fun h => by cases h⟩
  | true =>
    have h8 : l.length ≤ 8 := by unfold fewB at hf; simp only [Bool.and_eq_true, decide_eq_true_eq] at hf; exact hf.2
    rw [if_neg (by simp), rOf_ok h8 (fun f hf => (h f hf).ok), Option.bind_some]
    exact ⟨_, rfl, fun hb => gd_of hf (by simpa using hb)⟩
theorem table_ok {l : List SFeatures} (g : Gd l) (h : ∀ f ∈ l, FB f) : m_law30_table FU l = some (ofT l, true) := by
  have h8 := g.len
  unfold m_law30_table
  rw [lfew_ok (by omega) h, Option.bind_some, g.f, if_neg (by simp), rOf_ok h8 (fun f hf => (h f hf).ok), Option.bind_some, g.ofR, if_neg (by simp), owns_ok h8, Option.bind_some, Of_ok h8 (fun f hf => (h f hf).ok), Option.bind_some, g.ofR]; rfl
theorem Gd.vt {l : List SFeatures} (g : Gd l) : VT (ofT l) := VT.ofT l g.v g.n
theorem Gd.tb {l : List SFeatures} (g : Gd l) : TBn (ofT l) 340 := by
  have h := TBn.ofT l
  have := g.len
  exact ⟨by have := h.n; omega, fun b hb => by have := h.i b hb; omega⟩
theorem Gd.pairs {l : List SFeatures} (g : Gd l) {n : Int} (h : 2 ≤ n) (h2 : n ≤ 1000) : m_block_Pairs FU (ofT l) n = some (pairsT (ofT l) n, 0) := by
  rw [Pairs_ok ⟨by have := g.tb.n; omega, fun b hb => by have := g.tb.i b hb; omega⟩]
  unfold pairsR
  rw [tabB_iff.2 g.vt, if_neg (by simp), if_neg (by omega)]
end
section
/- Laws of keys, changes and pairs, in plain Lean. Conditions: none. -/
open Go

end
section
/- The law of steps, in plain Lean. Conditions: none. -/
open Go

theorem remN {a b : Nat} (hb : 0 < b) : rem (a : Int) (b : Int) = some ((a % b : Nat) : Int) := by
  unfold rem
  rw [if_neg (by omega)]
  rfl
theorem u8_rem {a : Int} (h : 0 ≤ a ∧ a ≤ 255) {b : Nat} (hb : 0 < b) : ∃ k : Nat, k < b ∧ rem (IntKind.i64.wrap a) (b : Int) = some (k : Int) := by
  refine ⟨a.toNat % b, Nat.mod_lt _ hb, ?_⟩
  rw [w64 (by omega) (by omega)]
  have := remN (a := a.toNat) hb
  rw [show ((a.toNat : Nat) : Int) = a by omega] at this
  exact this
theorem ids_inj {l : List SFeatures} (h : (ids l).Nodup) {i j : Nat} (hi : i < l.length) (hj : j < l.length) (e : l[i].fID = l[j].fID) : i = j := by
  rcases Nat.lt_trichotomy i j with hl | hl | hl
  · have := List.pairwise_iff_getElem.1 h i j (by simpa using hi) (by simpa using hj) hl
    simp only [ids, List.getElem_map] at this
    exact absurd e this
  · exact hl
  · have := List.pairwise_iff_getElem.1 h j i (by simpa using hj) (by simpa using hi) hl
    simp only [ids, List.getElem_map] at this
    exact absurd e.symm this
end
section
/- The law of meaning, in plain Lean. Conditions: none. -/
open Go

/-! ### how many records have a key -/
def cntK (l : List SFeatures) (s : List UInt8) : Nat := (l.filter fun f => decide (s ∈ keys f)).length
theorem count_nd (s : List UInt8) : ∀ {ks : List (List UInt8)}, ks.Nodup → ks.countP (fun k => decide (k = s)) = if s ∈ ks then 1 else 0
  | [], _ => by simp
  | k :: ks, h => by
    obtain ⟨h1, h2⟩ := List.nodup_cons.1 h
    rw [List.countP_cons, count_nd s h2]
    by_cases e : k = s
    · subst e
      rw [if_neg h1]; simp
    · have : s ≠ k := fun h => e h.symm
      simp [e, this]
theorem count_asc {ks : List (List UInt8)} (h : AscS ks) (s : List UInt8) : ks.countP (fun k => decide (k = s)) = if s ∈ ks then 1 else 0 := count_nd s h.nd
theorem count_ok {l : List SFeatures} {s : List UInt8} (hl : l.length ≤ 8) (hf : ∀ f ∈ l, FOk f) : m_law30_BlockMeaning_1 FU s l = some ((cntK l s : Nat) : Int) := by
  have e2 : ∀ (f : SFeatures) (c : Nat), c ≤ 1000 → iter FU (fun x => m_law30_BlockMeaning_1_L2 FU s (keys f) x.1 x.2) ((c : Int), (0 : Int)) = some (((c + (keys f).countP (fun k => decide (k = s)) : Nat)) : Int) := by
    intro f c hc
    have hk := keys_len f
    refine iter_to (f := fun x => m_law30_BlockMeaning_1_L2 FU s (keys f) x.1 x.2) (fun j => (((c + ((keys f).take j).countP (fun k => decide (k = s)) : Nat) : Int), (j : Int))) (keys f).length FU _ (fun j hj => ?_) ?_ (by simp only [FU]; omega) (by simp)
    · simp only [m_law30_BlockMeaning_1_L2]
      have hcl := List.countP_le_length (p := fun k => decide (k = s)) (l := (keys f).take j)
      rw [List.length_take] at hcl
      rw [if_pos (decide_eq_true (by omega)), ixL hj, Option.bind_some, wadd1 hj (by simp only [ML]; omega), take_snocL hj, List.countP_append]
      by_cases hc : (keys f)[j] = s
      · rw [if_pos (decide_eq_true hc), Option.bind_some, w64 (by omega) (by omega)]
        simp [hc]; omega
      · rw [if_neg (by simpa using hc), Option.bind_some]
        simp [hc]
    · simp only [m_law30_BlockMeaning_1_L2]; rw [if_neg (by simp), List.take_length]
  have e1 : iter FU (fun x => m_law30_BlockMeaning_1_L1 FU s l x.1 x.2) ((0 : Int), (0 : Int)) = some ((cntK l s : Nat) : Int) := by
    refine iter_to (f := fun x => m_law30_BlockMeaning_1_L1 FU s l x.1 x.2) (fun j => (((cntK (l.take j) s : Nat) : Int), (j : Int))) l.length FU _ (fun j hj => ?_) ?_ (by simp only [FU]; omega) rfl
    · simp only [m_law30_BlockMeaning_1_L1]
      have hk2 : m_ref30_Keys FU (⟨l[j].fID, l[j].fTitle, l[j].fAuthor, l[j].fYears, l[j].fIsbns, l[j].fLangs, l[j].fPublisher, l[j].fEdition⟩ : SFeatures) = some (keys l[j]) := rkeys_ok (hf _ (List.getElem_mem hj))
      have hcl : cntK (l.take j) s ≤ 8 := by
        have := List.length_filter_le (fun f => decide (s ∈ keys f)) (l.take j)
        rw [List.length_take] at this
        unfold cntK; omega
      rw [if_pos (decide_eq_true (by omega)), ixL hj, Option.bind_some, hk2, Option.bind_some, e2 _ _ (by omega), Option.bind_some, wadd1 hj (by simp only [ML]; omega), count_asc (keys_asc _)]
      unfold cntK
      rw [take_snocL hj, List.filter_append, List.length_append]
      by_cases hm : s ∈ keys l[j] <;> simp [hm]
    · simp only [m_law30_BlockMeaning_1_L1]; rw [if_neg (by simp), List.take_length]
  unfold m_law30_BlockMeaning_1
  rw [e1]; rfl
theorem block_len {l : List SFeatures} (g : Gd l) {b : SBlock} (hb : b ∈ ofT l) : b.fIDs.length = cntK l b.fKey := by
  have h1 : b.fIDs.Nodup := asc_nodup (lt := fun a b : Int => a < b) (fun _ => Int.lt_irrefl _) (g.vt.b b hb).a
  have h2 : ((l.filter fun f => decide (b.fKey ∈ keys f)).map (·.fID)).Nodup := g.n.sublist (List.filter_sublist.map _)
  have := perm_of_same h1 h2 (fun y => by
    rw [← mem_block g.vt hb, mem_ofT, List.mem_map]
    constructor
    · rintro ⟨f, hf, hk, rfl⟩; exact ⟨f, List.mem_filter.2 ⟨hf, by simpa using hk⟩, rfl⟩
    · rintro ⟨f, hf, rfl⟩
      have := List.mem_filter.1 hf
      exact ⟨f, this.1, by simpa using this.2, rfl⟩)
  rw [this.length_eq, List.length_map]; rfl
theorem id_inj {l : List SFeatures} (g : Gd l) {f h : SFeatures} (hf : f ∈ l) (hh : h ∈ l) (e : f.fID = h.fID) : f = h := by
  obtain ⟨i, hi, rfl⟩ := List.getElem_of_mem hf
  obtain ⟨j, hj, rfl⟩ := List.getElem_of_mem hh
  have := ids_inj g.n hi hj e
  subst this; rfl
theorem cand_of {l : List SFeatures} (g : Gd l) {n : Int} {f h : SFeatures} (hf : f ∈ l) (hh : h ∈ l) (hlt : f.fID < h.fID) : cand (ofT l) n ⟨f.fID, h.fID⟩ ↔ ∃ s ∈ keys f, s ∈ keys h ∧ (cntK l s : Int) ≤ n := by
  have key : ∀ {b : SBlock} (_ : b ∈ ofT l) {x : SFeatures} (_ : x ∈ l), x.fID ∈ b.fIDs ↔ b.fKey ∈ keys x := fun {b} hb {x} hx => by
    rw [← mem_block g.vt hb, mem_ofT]
    constructor
    · rintro ⟨y, hy, hk, e⟩; rw [id_inj g hx hy e]; exact hk
    · intro hk; exact ⟨x, hx, hk, rfl⟩
  constructor
  · rintro ⟨b, hb, hl, h1, h2, _⟩
    exact ⟨b.fKey, (key hb hf).1 h1, (key hb hh).1 h2, by rw [← block_len g hb]; exact hl⟩
  · rintro ⟨s, h1, h2, hl⟩
    obtain ⟨b, hb, rfl, _⟩ := (mem_ofT (s := s) (x := f.fID) l).2 ⟨f, hf, h1, rfl⟩
    exact ⟨b, hb, by rw [block_len g hb]; exact hl, (key hb hf).2 h1, (key hb hh).2 h2, hlt⟩

/-! ### the loops of the law -/
theorem any_snoc {α : Type} {p : α → Bool} {l : List α} {x : α} : (l ++ [x]).any p = (l.any p || p x) := by simp
theorem want_ok {l : List SFeatures} {n : Int} {c : Int} (hl : l.length ≤ 8) (hfo : ∀ f ∈ l, FOk f) (hn : IntKind.i64.wrap ((2 : Int) + c) = n) {f h : SFeatures} (hh : FOk h) :
    iter FU (fun s => m_law30_BlockMeaning_L3 FU l c h (keys f) s.1 s.2) (false, (0 : Int)) = some ((keys f).any fun k => (keys h).any fun m => decide (k = m) && decide ((cntK l k : Int) ≤ n)) := by
  have hk := keys_len f
  have hk2 := keys_len h
  have e4 : ∀ (k : List UInt8) (b : Bool), iter FU (fun s => m_law30_BlockMeaning_L4 FU l c k (keys h) s.1 s.2) (b, (0 : Int)) = some (b || (keys h).any fun m => decide (k = m) && decide ((cntK l k : Int) ≤ n)) := by
    intro k b
    refine iter_to (f := fun s => m_law30_BlockMeaning_L4 FU l c k (keys h) s.1 s.2) (fun j => (b || ((keys h).take j).any fun m => decide (k = m) && decide ((cntK l k : Int) ≤ n), (j : Int))) (keys h).length FU _ (fun j hj => ?_) ?_ (by simp only [FU]; omega) (by simp)
    · simp only [m_law30_BlockMeaning_L4]
      rw [if_pos (decide_eq_true (by omega)), ixL hj, Option.bind_some, wadd1 hj (by simp only [ML]; omega), take_snocL hj, any_snoc, count_ok hl hfo, hn]
      generalize (((keys h).take j).any fun m => decide (k = m) && decide ((cntK l k : Int) ≤ n)) = q
      cases b with
      | true => simp
      | false =>
        cases q with
        | true => simp
        | false =>
          by_cases e : k = (keys h)[j]
          · rw [decide_eq_true e]; simp
          · rw [decide_eq_false e]; simp
    · simp only [m_law30_BlockMeaning_L4]; rw [if_neg (by simp), List.take_length]
  refine iter_to (f := fun s => m_law30_BlockMeaning_L3 FU l c h (keys f) s.1 s.2) (fun j => (((keys f).take j).any fun k => (keys h).any fun m => decide (k = m) && decide ((cntK l k : Int) ≤ n), (j : Int))) (keys f).length FU _ (fun j hj => ?_) ?_ (by simp only [FU]; omega) (by simp)
  · simp only [m_law30_BlockMeaning_L3]
    have hq : m_ref30_Keys FU (⟨h.fID, h.fTitle, h.fAuthor, h.fYears, h.fIsbns, h.fLangs, h.fPublisher, h.fEdition⟩ : SFeatures) = some (keys h) := rkeys_ok hh
    rw [if_pos (decide_eq_true (by omega)), ixL hj, Option.bind_some, hq, Option.bind_some, e4, Option.bind_some, wadd1 hj (by simp only [ML]; omega), take_snocL hj, any_snoc]
  · simp only [m_law30_BlockMeaning_L3]; rw [if_neg (by simp), List.take_length]
theorem is_ok {P : List SPair} {e : Int} (hl : P.length ≤ 100000000) {f h : SFeatures} : iter FU (fun s => m_law30_BlockMeaning_L5 FU (P, e) f h s.1 s.2) (false, (0 : Int)) = some (decide ((⟨f.fID, h.fID⟩ : SPair) ∈ P)) := by
  have : iter FU (fun s => m_law30_BlockMeaning_L5 FU (P, e) f h s.1 s.2) (false, (0 : Int)) = some (P.any fun p => decide (p.fA = f.fID) && decide (p.fB = h.fID)) := by
    refine iter_to (f := fun s => m_law30_BlockMeaning_L5 FU (P, e) f h s.1 s.2) (fun j => ((P.take j).any fun p => decide (p.fA = f.fID) && decide (p.fB = h.fID), (j : Int))) P.length FU _ (fun j hj => ?_) ?_ (by simp only [FU]; omega) (by simp)
    · simp only [m_law30_BlockMeaning_L5]
      rw [if_pos (decide_eq_true (by omega)), ixL hj, Option.bind_some, wadd1 hj (by simp only [ML]; omega), take_snocL hj, any_snoc]
    · simp only [m_law30_BlockMeaning_L5]; rw [if_neg (by simp), List.take_length]
  rw [this]
  congr 1
  rw [Bool.eq_iff_iff, List.any_eq_true, decide_eq_true_eq]
  constructor
  · rintro ⟨p, hp, h⟩
    simp only [Bool.and_eq_true, decide_eq_true_eq] at h
    rw [← h.1, ← h.2]; exact hp
  · intro hp; exact ⟨_, hp, by simp⟩
def hit (P : List SPair) (f h : SFeatures) : Bool := decide (f.fID < h.fID) && decide ((⟨f.fID, h.fID⟩ : SPair) ∈ P)
def hits (P : List SPair) (f : SFeatures) (l : List SFeatures) : List SPair := (l.filter fun h => hit P f h).map fun h => ⟨f.fID, h.fID⟩
def allH (P : List SPair) (l m : List SFeatures) : List SPair := m.flatMap fun f => hits P f l
theorem hits_len {P : List SPair} {f : SFeatures} {l : List SFeatures} : (hits P f l).length ≤ l.length := by
  unfold hits; rw [List.length_map]; exact List.length_filter_le _ _
theorem allH_len {P : List SPair} {l : List SFeatures} : ∀ {m : List SFeatures}, (allH P l m).length ≤ m.length * l.length
  | [] => by simp [allH]
  | f :: m => by
    have h1 := hits_len (P := P) (f := f) (l := l)
    have h2 := allH_len (P := P) (l := l) (m := m)
    show (hits P f l ++ allH P l m).length ≤ _
    rw [List.length_append, List.length_cons, Nat.succ_mul]; omega
theorem allH_perm {l : List SFeatures} (g : Gd l) {n : Int} : (allH (pairsT (ofT l) n) l l).length = (pairsT (ofT l) n).length := by
  refine (perm_of_same ?_ (asc_nodup (lt := ltP) (fun a h => by unfold ltP at h; omega) (pairsT_asc _ n)) fun p => ?_).length_eq
  · unfold allH
    refine List.pairwise_flatMap.2 ⟨fun f hf => ?_, ?_⟩
    · unfold hits
      refine List.pairwise_map.2 ?_
      have := g.n
      unfold ids at this
      have h1 : l.Pairwise (fun a b => a.fID ≠ b.fID) := List.pairwise_map.1 this
      exact (h1.sublist List.filter_sublist).imp (fun {a b} h e => by injection e with _ e; exact h e)
    · have := g.n
      unfold ids at this
      have h1 : l.Pairwise (fun a b => a.fID ≠ b.fID) := List.pairwise_map.1 this
      refine h1.imp (fun {a b} h x hx y hy e => ?_)
      unfold hits at hx hy
      obtain ⟨_, _, rfl⟩ := List.mem_map.1 hx
      obtain ⟨_, _, rfl⟩ := List.mem_map.1 hy
      injection e with e _
      exact h e
  · unfold allH hits
    simp only [List.mem_flatMap, List.mem_map, List.mem_filter]
    constructor
    · rintro ⟨f, _, h, ⟨_, hh⟩, rfl⟩
      unfold hit at hh
      simp only [Bool.and_eq_true, decide_eq_true_eq] at hh
      exact hh.2
    · intro hp
      obtain ⟨b, hb, _, h1, h2, h3⟩ := (pairsT_mem g.vt).1 hp
      obtain ⟨f, hf, _, e1⟩ := (mem_ofT l).1 ((mem_block g.vt hb).2 h1)
      obtain ⟨h, hh, _, e2⟩ := (mem_ofT l).1 ((mem_block g.vt hb).2 h2)
      refine ⟨f, hf, h, ⟨hh, ?_⟩, by rw [← e1, ← e2]⟩
      unfold hit
      rw [← e1, ← e2]
      simp only [Bool.and_eq_true, decide_eq_true_eq]
      exact ⟨h3, hp⟩
theorem plain_BlockMeaning {l : List SFeatures} {a : Int} (hl : l.length ≤ 1048576) (h : ∀ f ∈ l, FB f) (ha : 0 ≤ a ∧ a ≤ 255) : m_law30_BlockMeaning FU l a = some true := by
  unfold m_law30_BlockMeaning
  obtain ⟨b, hb, hg⟩ := good_ok hl h
  rw [awake_ok, Option.bind_some, hb]
  cases b with
  | false => rfl
  | true =>
    have g := hg rfl
    have h8 := g.len
    have hfo : ∀ f ∈ l, FOk f := fun f hf => (h f hf).ok
    simp only [Bool.not_true, Bool.not_false, if_true, Option.bind_some, Bool.or_self, Bool.false_eq_true, if_false]
    obtain ⟨c, hc, hrem⟩ := u8_rem ha (b := 6) (by decide)
    have hw : IntKind.i64.wrap ((2 : Int) + (c : Int)) = ((2 + c : Nat) : Int) := by rw [w64 (by omega) (by omega)]; omega
    rw [table_ok g h, Option.bind_some, show rem (IntKind.i64.wrap a) (6 : Int) = some (c : Int) from hrem, Option.bind_some, hw, g.pairs (by omega) (by omega), Option.bind_some]
    rw [if_neg (by simp)]
    generalize hN : ((2 + c : Nat) : Int) = N at hw
    have hPl : (pairsT (ofT l) N).length ≤ 64 := by
      have := allH_perm g (n := N)
      have h2 := allH_len (P := pairsT (ofT l) N) (l := l) (m := l)
      have h3 : l.length * l.length ≤ 8 * 8 := Nat.mul_le_mul h8 h8
      omega
    have hiff : ∀ f ∈ l, ∀ q ∈ l, f.fID < q.fID → ((keys f).any fun k => (keys q).any fun m => decide (k = m) && decide ((cntK l k : Int) ≤ N)) = decide ((⟨f.fID, q.fID⟩ : SPair) ∈ pairsT (ofT l) N) := fun f hf q hq hlt => by
      rw [Bool.eq_iff_iff, decide_eq_true_eq, pairsT_mem g.vt, cand_of g hf hq hlt]
      simp only [List.any_eq_true, Bool.and_eq_true, decide_eq_true_eq]
      constructor
      · rintro ⟨k, hk, m, hm, rfl, hc⟩; exact ⟨k, hk, hm, hc⟩
      · rintro ⟨k, hk, hm, hc⟩; exact ⟨k, hk, k, hm, rfl, hc⟩
    have hall := allH_perm g (n := N)
    generalize hP : pairsT (ofT l) N = P at *
    have e2 : ∀ (f : SFeatures) (_ : f ∈ l) (n0 : Nat), n0 ≤ 1000 → iter FU (fun s => m_law30_BlockMeaning_L2 FU l (c : Int) (P, 0) f s.1 s.2) ((n0 : Int), (0 : Int)) = some (.inr (((n0 + (hits P f l).length : Nat)) : Int)) := by
      intro f hf n0 hn0
      refine iter_to (f := fun s => m_law30_BlockMeaning_L2 FU l (c : Int) (P, 0) f s.1 s.2) (fun j => (((n0 + (hits P f (l.take j)).length : Nat) : Int), (j : Int))) l.length FU _ (fun j hj => ?_) ?_ (by simp only [FU]; omega) (by simp [hits])
      · simp only [m_law30_BlockMeaning_L2]
        have hq := List.getElem_mem hj
        have hlen := hits_len (P := P) (f := f) (l := l.take j)
        rw [List.length_take] at hlen
        have hs : (hits P f (l.take (j + 1))).length = (hits P f (l.take j)).length + (if hit P f l[j] = true then 1 else 0) := by
          unfold hits
          rw [take_snocL hj, List.filter_append, List.map_append, List.length_append]
          by_cases hh : hit P f l[j] = true <;> simp [hh]
        rw [if_pos (decide_eq_true (by omega)), ixL hj, Option.bind_some, hs]
        unfold hit
        by_cases hlt : f.fID < l[j].fID
        · have hk1 : m_ref30_Keys FU (⟨f.fID, f.fTitle, f.fAuthor, f.fYears, f.fIsbns, f.fLangs, f.fPublisher, f.fEdition⟩ : SFeatures) = some (keys f) := rkeys_ok (hfo f hf)
          rw [if_neg (by rw [decide_eq_true_eq]; omega), hk1, Option.bind_some, want_ok h8 hfo hw (hfo _ hq), Option.bind_some, is_ok (by omega), Option.bind_some, hiff f hf _ hq hlt, decide_eq_true hlt, Bool.true_and]
          cases decide ((⟨f.fID, l[j].fID⟩ : SPair) ∈ P) with
          | true =>
            rw [if_neg (by simp), if_pos rfl, Option.bind_some]
            dsimp only
            rw [w64 (by omega) (by omega), wadd1 hj (by simp only [ML]; omega), if_pos rfl]
            rfl
          | false =>
            rw [if_neg (by simp), if_neg (by simp), Option.bind_some]
            dsimp only
            rw [wadd1 hj (by simp only [ML]; omega), if_neg (by simp)]
            rfl
        · rw [if_pos (by rw [decide_eq_true_eq]; omega), Option.bind_some]
          dsimp only
          rw [wadd1 hj (by simp only [ML]; omega), decide_eq_false hlt, Bool.false_and, if_neg (by simp)]
          rfl
      · simp only [m_law30_BlockMeaning_L2]; rw [if_neg (by simp), List.take_length]
    have e1 : iter FU (fun s => m_law30_BlockMeaning_L1 FU l (c : Int) (P, 0) s.1 s.2) ((0 : Int), (0 : Int)) = some (.inr (((allH P l l).length : Nat) : Int)) := by
      refine iter_to (f := fun s => m_law30_BlockMeaning_L1 FU l (c : Int) (P, 0) s.1 s.2) (fun j => (((allH P l (l.take j)).length : Int), (j : Int))) l.length FU _ (fun j hj => ?_) ?_ (by simp only [FU]; omega) (by simp [allH])
      · simp only [m_law30_BlockMeaning_L1]
        have hlen := allH_len (P := P) (l := l) (m := l.take j)
        have h3 : (l.take j).length * l.length ≤ 8 * 8 := Nat.mul_le_mul (by rw [List.length_take]; omega) h8
        rw [if_pos (decide_eq_true (by omega)), ixL hj, Option.bind_some, e2 _ (List.getElem_mem hj) _ (by omega), Option.bind_some]
        dsimp only
        rw [wadd1 hj (by simp only [ML]; omega), take_snocL hj]
        unfold allH
        rw [List.flatMap_append, List.length_append]
        simp
      · simp only [m_law30_BlockMeaning_L1]; rw [if_neg (by simp), List.take_length]
    rw [e1, Option.bind_some, hall]
    simp
end
section
/- The law of growth, in plain Lean. Conditions: none. -/
open Go

end
end Go.Proofs.YtkdefjliknpliaaGreatDoor.Ab
