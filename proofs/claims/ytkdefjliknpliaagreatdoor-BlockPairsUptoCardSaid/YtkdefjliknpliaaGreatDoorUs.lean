/- Plain laws, joined. Conditions: none. -/
import Derived.Test.YtkdefjliknpliaaGreatDoorUn
namespace Go.Proofs.YtkdefjliknpliaaGreatDoor.Ab
section
/- What the laws are made of, in plain Lean. Conditions: none. -/
open Go

/-! ### lists that are the same -/
theorem same_gen {α : Type} [DecidableEq α] [Inhabited α] {a b : List α} {g : Int → Option (Int ⊕ (Bool ⊕ Unit))} (hl : a.length ≤ 100000000)
    (hg : ∀ (j : Nat) (h : j < a.length) (h2 : j < b.length), g (j : Int) = some (if a[j] = b[j] then .inl ((j + 1 : Nat) : Int) else .inr (.inl false))) (he : g (a.length : Int) = some (.inr (.inr ()))) :
    (if (!decide ((a.length : Int) = (b.length : Int))) = true then some false else (iter FU g (0 : Int)).bind fun t3 => match t3 with | (.inl u4) => some u4 | (.inr _) => some true) = some (decide (a = b)) := by
  by_cases hlen : a.length = b.length
  · rw [if_neg (by simp [hlen])]
    have := iter_any (ρ := Bool ⊕ Unit) (f := g) a.length FU (fun i => !decide (a.getD i default = b.getD i default)) (.inl false) (.inr ()) (fun j hj => by
      rw [hg j hj (by omega), show a.getD j default = a[j] by simp [hj], show b.getD j default = b[j] by simp [show j < b.length by omega]]
      by_cases h : a[j] = b[j]
      · rw [if_pos h, decide_eq_true h]; rfl
      · rw [if_neg h, decide_eq_false h]; rfl) he (by simp only [FU]; omega)
    rw [this, Option.bind_some]
    have e : anyN a.length (fun i => !decide (a.getD i default = b.getD i default)) = !decide (a = b) := by
      rw [Bool.eq_iff_iff, anyN_t]
      simp only [Bool.not_eq_true', decide_eq_false_iff_not]
      constructor
      · rintro ⟨i, _, h⟩ e; subst e; exact h rfl
      · intro h
        by_cases hh : ∃ i, i < a.length ∧ ¬ a.getD i default = b.getD i default
        · exact hh
        · exfalso; apply h
          refine List.ext_getElem hlen fun i h1 h2 => ?_
          have : a.getD i default = b.getD i default := Classical.byContradiction fun hc => hh ⟨i, h1, hc⟩
          simpa [h1, h2] using this
    rw [e]
    cases decide (a = b) <;> rfl
  · rw [if_pos (by simp; omega), decide_eq_false (fun e => hlen (by rw [e]))]
theorem sameI_ok {a b : List Int} (hl : a.length ≤ 100000000) : m_ref30_SameInts FU a b = some (decide (a = b)) :=
  same_gen hl (g := fun s => m_ref30_SameInts_L1 FU a b s) (fun j h h2 => by
    unfold m_ref30_SameInts_L1
    rw [if_pos (decide_eq_true (by omega)), ixL h, Option.bind_some, ixL h2, Option.bind_some, wadd1 h (by simp only [ML]; omega)]
    by_cases e : a[j] = b[j]
    · rw [if_neg (by simp [e]), if_pos e]
    · rw [if_pos (by simp [e]), if_neg e]) (by unfold m_ref30_SameInts_L1; simp)
theorem sameP_ok {a b : List SPair} (hl : a.length ≤ 100000000) : m_ref30_SamePairs FU a b = some (decide (a = b)) :=
  same_gen hl (g := fun s => m_ref30_SamePairs_L1 FU a b s) (fun j h h2 => by
    unfold m_ref30_SamePairs_L1
    rw [if_pos (decide_eq_true (by omega)), ixL h, Option.bind_some, ixL h2, Option.bind_some, wadd1 h (by simp only [ML]; omega)]
    by_cases e : a[j] = b[j]
    · rw [if_neg (by simp [e]), if_pos e]
    · rw [if_pos (by simp [e]), if_neg e]) (by unfold m_ref30_SamePairs_L1; simp)
theorem sameT_ok {a b : List (List UInt8)} (hl : a.length ≤ 100000000) : m_ref29_SameTexts FU a b = some (decide (a = b)) :=
  same_gen hl (g := fun s => m_ref29_SameTexts_L1 FU a b s) (fun j h h2 => by
    unfold m_ref29_SameTexts_L1
    rw [if_pos (decide_eq_true (by omega)), ixL h, Option.bind_some, ixL h2, Option.bind_some, wadd1 h (by simp only [ML]; omega)]
    by_cases e : a[j] = b[j]
    · rw [if_neg (by simp [e]), if_pos e]
    · rw [if_pos (by simp [e]), if_neg e]) (by unfold m_ref29_SameTexts_L1; simp)
theorem own_ok {t : List SBlock} (h : t.length ≤ 2000000) : m_law30_Own FU t = some t := by
  unfold m_law30_Own
  have : iter FU (fun s => m_law30_Own_L1 FU t s.1 s.2) (([] : List SBlock), (0 : Int)) = some t := by
    refine iter_to (f := fun s => m_law30_Own_L1 FU t s.1 s.2) (fun j => (t.take j, (j : Int))) t.length FU _ (fun j hj => ?_) ?_ (by simp only [FU]; omega) rfl
    · simp only [m_law30_Own_L1]
      rw [if_pos (decide_eq_true (by omega)), ixL hj, Option.bind_some, app_one (by simp; omega) (by simp; omega), Option.bind_some, wadd1 hj (by simp only [ML]; omega), take_snocL hj]
    · simp only [m_law30_Own_L1]; rw [if_neg (by simp), List.take_length]
  rw [this]; rfl
/-! ### the example -/
abbrev f0 : SFeatures := ⟨(3 : Int), ([([116, 104, 101] : List UInt8), ([111, 114, 105, 103, 105, 110] : List UInt8), ([111, 102] : List UInt8), ([115, 112, 101, 99, 105, 101, 115] : List UInt8)] : List (List UInt8)), ([100, 97, 114, 119, 105, 110] : List UInt8), ([(1859 : Int)] : List Int), [], [], [], []⟩
abbrev k0 : List (List UInt8) := [([97, 32, 100, 97, 114, 119, 105, 110, 32, 116, 104, 101] : List UInt8), ([116, 32, 116, 104, 101, 32, 111, 114, 105, 103, 105, 110, 32, 111, 102] : List UInt8), ([121, 32, 49, 56, 53, 57, 32, 115, 112, 101, 99, 105, 101, 115] : List UInt8)]
theorem k0_eq : keys f0 = k0 := by decide +kernel
theorem t0_eq : ofR [f0] = ([⟨k0[0], [3]⟩, ⟨k0[1], [3]⟩, ⟨k0[2], [3]⟩], 0) := by decide +kernel
theorem t0_val : tabB [⟨k0[0], [3]⟩, ⟨k0[1], [3]⟩, ⟨k0[2], [3]⟩] = true := by decide +kernel
theorem f0_ok : FOk f0 := by
  refine ⟨⟨by decide, ?_⟩, by decide, by decide, ⟨by decide, ?_⟩, ⟨by decide, ?_⟩, ⟨by decide, ?_⟩, ⟨by decide, ?_⟩⟩ <;> decide
theorem awake_ok : m_law30_awake FU = some true := by
  have h1 : m_block_Of FU [f0] = some (ofR [f0]) := Of_ok (by decide) (fun f hf => by rw [List.mem_singleton] at hf; subst hf; exact f0_ok)
  have h2 : m_block_Keys FU f0 = some k0 := by rw [keys_ok f0_ok, k0_eq]
  have h3 : m_ref29_SameTexts FU k0 k0 = some true := by rw [sameT_ok (by decide)]; simp
  have h4 : m_block_Valid FU [⟨k0[0], [3]⟩, ⟨k0[1], [3]⟩, ⟨k0[2], [3]⟩] = some true := by
    rw [bval_ok ⟨by decide, by decide⟩, t0_val]
  unfold m_law30_awake
  rw [show m_block_Of FU _ = some (ofR [f0]) from h1, t0_eq, Option.bind_some]
  rw [show m_block_Keys FU _ = some k0 from h2]
  simp only [List.length_cons, List.length_nil, h4]
  show ((some k0).bind fun v3 => (m_ref29_SameTexts FU v3 k0).bind fun v4 => _) = _
  rw [Option.bind_some, h3]
  rfl

/-! ### few -/
def fq (f : SFeatures) : Bool := (m_ref29_Few FU f).getD false
theorem fq_ok {f : SFeatures} (h : FB f) : m_ref29_Few FU f = some (fq f) := by
  obtain ⟨b, hb⟩ := few_ok h
  unfold fq
  rw [hb]; rfl
def fewB (l : List SFeatures) : Bool := l.all fq && decide (l.length ≤ 8)
/-- Records that have a table. -/
structure Gd (l : List SFeatures) : Prop where
  f : fewB l = true
  v : ∀ f ∈ l, fv f = true
  n : (ids l).Nodup
theorem Gd.len {l : List SFeatures} (h : Gd l) : l.length ≤ 8 := by
  have := h.f
  unfold fewB at this
  simp only [Bool.and_eq_true, decide_eq_true_eq] at this
  exact this.2
theorem Gd.ofR {l : List SFeatures} (h : Gd l) : ofR l = (ofT l, 0) := by
  unfold Ab.ofR
  rw [if_neg (by rw [List.all_eq_true.2 h.v]; simp), (dup_iff l).2 h.n, if_neg (by simp)]
theorem Gd.vt {l : List SFeatures} (g : Gd l) : VT (ofT l) := VT.ofT l g.v g.n
theorem Gd.tb {l : List SFeatures} (g : Gd l) : TBn (ofT l) 340 := by
  have h := TBn.ofT l
  have := g.len
  exact ⟨by have := h.n; omega, fun b hb => by have := h.i b hb; omega⟩
theorem Gd.pairs {l : List SFeatures} (g : Gd l) {n : Int} (h : 2 ≤ n) (h2 : n ≤ 1000) : m_block_Pairs FU (ofT l) n = some (pairsT (ofT l) n, 0) := by
  rw [Pairs_ok ⟨by have := g.tb.n; omega, fun b hb => by have := g.tb.i b hb; omega⟩]
  unfold pairsR
  rw [tabB_iff.2 g.vt, if_neg (by simp), if_neg (by omega)]
theorem tfew_ok {t : List SBlock} (ht : TBn t 1048576) : ∃ b, m_ref30_Few FU t = some b ∧ (b = true → TBn t 60) := by
  unfold m_ref30_Few
  have hn := ht.n
  have e := iter_any (ρ := Bool ⊕ Unit) (f := fun s => m_ref30_Few_L1 FU t s) t.length FU (fun i => decide (12 < (bd t i).fIDs.length) || decide (200 < (bd t i).fKey.length)) (.inl false) (.inr ()) (fun j hj => by
    simp only [m_ref30_Few_L1]
    rw [if_pos (decide_eq_true (by omega)), ixL hj, Option.bind_some, wadd1 hj (by simp only [ML]; omega), bd_eq hj]
    have e1 : decide ((12 : Int) < (t[j].fIDs.length : Int)) = decide (12 < t[j].fIDs.length) := by rw [decide_eq_decide]; omega
    have e2 : decide ((200 : Int) < (t[j].fKey.length : Int)) = decide (200 < t[j].fKey.length) := by rw [decide_eq_decide]; omega
    rw [e1]
    cases decide (12 < t[j].fIDs.length) with
    | true => rfl
    | false =>
      simp only [Bool.not_false, if_true, Option.bind_some, Bool.false_or, e2]
      split <;> rfl) (by simp [m_ref30_Few_L1]) (by simp only [FU]; omega)
  rw [e, Option.bind_some]
  cases hb : anyN t.length (fun i => decide (12 < (bd t i).fIDs.length) || decide (200 < (bd t i).fKey.length)) with
  | true => exact ⟨false, rfl, fun h => by cases h⟩
  | false =>
    refine ⟨_, rfl, fun h => ⟨by have := of_decide_eq_true h; omega, fun b hb' => ?_⟩⟩
    obtain ⟨i, hi, rfl⟩ := List.getElem_of_mem hb'
    have := anyN_f.1 hb i hi
    rw [bd_eq hi, Bool.or_eq_false_iff, decide_eq_false_iff_not] at this
    omega
end
section
/- Laws of keys, changes and pairs, in plain Lean. Conditions: none. -/
open Go

theorem pairsR_len {t : List SBlock} {n : Int} (h : TBn t 400) : (pairsR t n).1.length ≤ 100000000 := by
  unfold pairsR
  split
  · simp
  · split
    · simp
    · have h5 := prT_len (n := n) h.i
      have h6 := h.n
      have h7 := cmpct_len (isort (ltOf cfP) (prT t n))
      rw [(isort_perm _ _).length_eq] at h7
      unfold pairsT
      dsimp only
      omega
theorem nearT_len {t : List SBlock} {f : SFeatures} {n : Int} (h : VT t) (hb : TBn t 400) : (nearT t n (keys f)).length ≤ 100000 := by
  have h1 := nrL_len (n := n) h hb (ks := keys f)
  have h2 := keys_len f
  have h7 := cmpct_len (isort intLt (nrL t n (keys f)))
  rw [(isort_perm _ _).length_eq] at h7
  unfold nearT
  omega
theorem nearR_len {t : List SBlock} {f : SFeatures} {n : Int} (h : TBn t 400) : (nearR t f n).1.length ≤ 100000000 := by
  unfold nearR
  cases hv : tabB t with
  | false => simp
  | true =>
    split
    · simp
    · split
      · simp
      · split
        · simp
        · have := nearT_len (f := f) (n := n) (tabB_iff.1 hv) h
          dsimp only; omega
theorem plain_BlockPairs {t : List SBlock} {f : SFeatures} {x : Int} (ht : TBn t 1048576) (hf : FB f) : m_law30_BlockPairs FU t f x = some true := by
  unfold m_law30_BlockPairs
  obtain ⟨b, hb, hb2⟩ := tfew_ok ht
  have hq : m_ref29_Few FU (⟨f.fID, f.fTitle, f.fAuthor, f.fYears, f.fIsbns, f.fLangs, f.fPublisher, f.fEdition⟩ : SFeatures) = some (fq f) := fq_ok hf
  rw [awake_ok, Option.bind_some, hb]
  cases b with
  | false => simp
  | true =>
    have h60 := hb2 rfl
    have htb : TB t := h60.tb (by omega)
    simp only [Bool.not_true, Bool.not_false, if_true, Option.bind_some, Bool.or_self, Bool.false_or, hq]
    cases fq f with
    | false => rfl
    | true =>
      have h400 : TBn t 400 := ⟨by have := h60.n; omega, fun b hb => by have := h60.i b hb; omega⟩
      have h340 : TBn t 340 := ⟨by have := h60.n; omega, fun b hb => by have := h60.i b hb; omega⟩
      have hp : m_block_Near FU t (⟨f.fID, f.fTitle, f.fAuthor, f.fYears, f.fIsbns, f.fLangs, f.fPublisher, f.fEdition⟩ : SFeatures) x = some (nearR t f x) := Near_ok h400 hf.ok
      have hp2 : m_ref30_Near FU t (⟨f.fID, f.fTitle, f.fAuthor, f.fYears, f.fIsbns, f.fLangs, f.fPublisher, f.fEdition⟩ : SFeatures) x = some (nearR t f x) := rNear_ok h340 hf.ok
      have hn := h60.n
      simp only [Bool.not_true, Bool.false_eq_true, if_false]
      unfold m_law29_Own
      rw [own_ok (by omega), Option.bind_some, Pairs_ok h400, Option.bind_some, rPairs_ok h400, Option.bind_some, Option.bind_some, Option.bind_some, hp, Option.bind_some, hp2, Option.bind_some, sameP_ok (pairsR_len h400), sameI_ok (nearR_len h400)]
      simp
end
section
/- The law of steps, in plain Lean. Conditions: none. -/
open Go

end
section
/- The law of meaning, in plain Lean. Conditions: none. -/
open Go

/-! ### how many records have a key -/
/-! ### the loops of the law -/
def hit (P : List SPair) (f h : SFeatures) : Bool := decide (f.fID < h.fID) && decide ((⟨f.fID, h.fID⟩ : SPair) ∈ P)
end
section
/- The law of growth, in plain Lean. Conditions: none. -/
open Go

end
end Go.Proofs.YtkdefjliknpliaaGreatDoor.Ab
