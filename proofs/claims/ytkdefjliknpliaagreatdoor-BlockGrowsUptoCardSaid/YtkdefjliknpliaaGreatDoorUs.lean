/- Plain laws, joined. Conditions: none. -/
import Derived.Test.YtkdefjliknpliaaGreatDoorUn
namespace Go.Proofs.YtkdefjliknpliaaGreatDoor.Ab
section
/- What the laws are made of, in plain Lean. Conditions: none. -/
open Go
theorem same_gen {α : Type} [DecidableEq α] [Inhabited α] {a b : List α} {g : Int → Option (Int ⊕ (Bool ⊕ Unit))} (hl : a.length ≤ 100000000)
    (hg : ∀ (j : Nat) (h : j < a.length) (h2 : j < b.length), g (j : Int) = some (if a[j] = b[j] then .inl ((j + 1 : Nat) : Int) else .inr (.inl false))) (he : g (a.length : Int) = some (.inr (.inr ()))) :
    (if (!decide ((a.length : Int) = (b.length : Int))) = true then some false else (iter FU g (0 : Int)).bind fun t3 => match t3 with | (.inl u4) => some u4 | (.inr _) => some true) = some (decide (a = b)) := by
  by_cases hlen : a.length = b.length
  · rw [if_neg (by simp [hlen])]
    have := iter_any (ρ := Bool ⊕ Unit) (f := g) a.length FU (fun i => !decide (a.getD i default = b.getD i default)) (.inl false) (.inr ()) (fun j hj => by
      rw [hg j hj (by omega), show a.getD j default = a[j] by simp [hj], show b.getD j default = b[j] by simp [show j < b.length by omega]]
      by_cases h : a[j] = b[j]
      · rw [if_pos h, decide_eq_true h]; rfl
      · rw [if_neg h, decide_eq_false h]; rfl) he (by simp only [FU]; omega)
    rw [this, Option.bind_some]
    have e : anyN a.length (fun i => !decide (a.getD i default = b.getD i default)) = !decide (a = b) := by
      rw [Bool.eq_iff_iff, anyN_t]
      simp only [Bool.not_eq_true', decide_eq_false_iff_not]
      constructor
      · rintro ⟨i, _, h⟩ e; subst e; exact h rfl
      · intro h
        by_cases hh : ∃ i, i < a.length ∧ ¬ a.getD i default = b.getD i default
        · exact hh
        · exfalso; apply h
          refine List.ext_getElem hlen fun i h1 h2 => ?_
          have : a.getD i default = b.getD i default := Classical.byContradiction fun hc => hh ⟨i, h1, hc⟩
          simpa [h1, h2] using this
    rw [e]
    cases decide (a = b) <;> rfl
  · rw [if_pos (by simp; omega), decide_eq_false (fun e => hlen (by rw [e]))]
theorem sameI_ok {a b : List Int} (hl : a.length ≤ 100000000) : m_ref30_SameInts FU a b = some (decide (a = b)) :=
  same_gen hl (g := fun s => m_ref30_SameInts_L1 FU a b s) (fun j h h2 => by
    unfold m_ref30_SameInts_L1
    rw [if_pos (decide_eq_true (by omega)), ixL h, Option.bind_some, ixL h2, Option.bind_some, wadd1 h (by simp only [ML]; omega)]
    by_cases e : a[j] = b[j]
    · rw [if_neg (by simp [e]), if_pos e]
    · rw [if_pos (by simp [e]), if_neg e]) (by unfold m_ref30_SameInts_L1; simp)
theorem sameT_ok {a b : List (List UInt8)} (hl : a.length ≤ 100000000) : m_ref29_SameTexts FU a b = some (decide (a = b)) :=
  same_gen hl (g := fun s => m_ref29_SameTexts_L1 FU a b s) (fun j h h2 => by
    unfold m_ref29_SameTexts_L1
    rw [if_pos (decide_eq_true (by omega)), ixL h, Option.bind_some, ixL h2, Option.bind_some, wadd1 h (by simp only [ML]; omega)]
    by_cases e : a[j] = b[j]
    · rw [if_neg (by simp [e]), if_pos e]
    · rw [if_pos (by simp [e]), if_neg e]) (by unfold m_ref29_SameTexts_L1; simp)
theorem owns_ok {l : List SFeatures} (h : l.length ≤ 8) : m_law29_Owns FU l = some l := by
  unfold m_law29_Owns
  have : iter FU (fun s => m_law29_Owns_L1 FU l s.1 s.2) (([] : List SFeatures), (0 : Int)) = some l := by
    refine iter_to (f := fun s => m_law29_Owns_L1 FU l s.1 s.2) (fun j => (l.take j, (j : Int))) l.length FU _ (fun j hj => ?_) ?_ (by simp only [FU]; omega) rfl
    · simp only [m_law29_Owns_L1]
      unfold m_law29_Own
      rw [if_pos (decide_eq_true (by omega)), ixL hj, Option.bind_some, Option.bind_some, app_one (by simp; omega) (by simp; omega), Option.bind_some, wadd1 hj (by simp only [ML]; omega), take_snocL hj]
    · simp only [m_law29_Owns_L1]; rw [if_neg (by simp), List.take_length]
  rw [this]; rfl
abbrev f0 : SFeatures := ⟨(3 : Int), ([([116, 104, 101] : List UInt8), ([111, 114, 105, 103, 105, 110] : List UInt8), ([111, 102] : List UInt8), ([115, 112, 101, 99, 105, 101, 115] : List UInt8)] : List (List UInt8)), ([100, 97, 114, 119, 105, 110] : List UInt8), ([(1859 : Int)] : List Int), [], [], [], []⟩
abbrev k0 : List (List UInt8) := [([97, 32, 100, 97, 114, 119, 105, 110, 32, 116, 104, 101] : List UInt8), ([116, 32, 116, 104, 101, 32, 111, 114, 105, 103, 105, 110, 32, 111, 102] : List UInt8), ([121, 32, 49, 56, 53, 57, 32, 115, 112, 101, 99, 105, 101, 115] : List UInt8)]
theorem k0_eq : keys f0 = k0 := by decide +kernel
theorem t0_eq : ofR [f0] = ([⟨k0[0], [3]⟩, ⟨k0[1], [3]⟩, ⟨k0[2], [3]⟩], 0) := by decide +kernel
theorem t0_val : tabB [⟨k0[0], [3]⟩, ⟨k0[1], [3]⟩, ⟨k0[2], [3]⟩] = true := by decide +kernel
theorem f0_ok : FOk f0 := by
  refine ⟨⟨by decide, ?_⟩, by decide, by decide, ⟨by decide, ?_⟩, ⟨by decide, ?_⟩, ⟨by decide, ?_⟩, ⟨by decide, ?_⟩⟩ <;> decide
theorem awake_ok : m_law30_awake FU = some true := by
  have h1 : m_block_Of FU [f0] = some (ofR [f0]) := Of_ok (by decide) (fun f hf => by rw [List.mem_singleton] at hf; subst hf; exact f0_ok)
  have h2 : m_block_Keys FU f0 = some k0 := by rw [keys_ok f0_ok, k0_eq]
  have h3 : m_ref29_SameTexts FU k0 k0 = some true := by rw [sameT_ok (by decide)]; simp
  have h4 : m_block_Valid FU [⟨k0[0], [3]⟩, ⟨k0[1], [3]⟩, ⟨k0[2], [3]⟩] = some true := by
    rw [bval_ok ⟨by decide, by decide⟩, t0_val]
  unfold m_law30_awake
  rw [show m_block_Of FU _ = some (ofR [f0]) from h1, t0_eq, Option.bind_some]
  rw [show m_block_Keys FU _ = some k0 from h2]
  simp only [List.length_cons, List.length_nil, h4]
  show ((some k0).bind fun v3 => (m_ref29_SameTexts FU v3 k0).bind fun v4 => _) = _
  rw [Option.bind_some, h3]
  rfl
def fq (f : SFeatures) : Bool := (m_ref29_Few FU f).getD false
theorem fq_ok {f : SFeatures} (h : FB f) : m_ref29_Few FU f = some (fq f) := by
  obtain ⟨b, hb⟩ := few_ok h
  unfold fq
  rw [hb]; rfl
def fewB (l : List SFeatures) : Bool := l.all fq && decide (l.length ≤ 8)
theorem lfew_ok {l : List SFeatures} (hl : l.length ≤ 1048576) (h : ∀ f ∈ l, FB f) : m_law30_few FU l = some (fewB l) := by
  unfold m_law30_few
  have e := iter_any (ρ := Bool ⊕ Unit) (f := fun s => m_law30_few_L1 FU l s) l.length FU (fun i => !fq (l.getD i default)) (.inl false) (.inr ()) (fun j hj => by
    have h0 : m_ref29_Few FU (⟨l[j].fID, l[j].fTitle, l[j].fAuthor, l[j].fYears, l[j].fIsbns, l[j].fLangs, l[j].fPublisher, l[j].fEdition⟩ : SFeatures) = some (fq l[j]) := fq_ok (h _ (List.getElem_mem hj))
    simp only [m_law30_few_L1]
    rw [if_pos (decide_eq_true (by omega)), ixL hj, Option.bind_some, h0, Option.bind_some, wadd1 hj (by simp only [ML]; omega), show l.getD j default = l[j] by simp [hj]]
    split <;> rfl) (by simp [m_law30_few_L1]) (by simp only [FU]; omega)
  rw [e, Option.bind_some, anyN_getD l default (fun f => !fq f), ← List.not_all_eq_any_not]
  unfold fewB
  have e2 : decide ((l.length : Int) ≤ 8) = decide (l.length ≤ 8) := by rw [decide_eq_decide]; omega
  rw [← e2]
  cases l.all fq <;> simp
theorem fewB_sub {l m : List SFeatures} (h : fewB l = true) (hm : ∀ f ∈ m, f ∈ l) (hl : m.length ≤ l.length) : fewB m = true := by
  unfold fewB at *
  simp only [Bool.and_eq_true, List.all_eq_true, decide_eq_true_eq] at *
  exact ⟨fun f hf => h.1 f (hm f hf), by omega⟩
structure Gd (l : List SFeatures) : Prop where
  f : fewB l = true
  v : ∀ f ∈ l, fv f = true
  n : (ids l).Nodup
theorem Gd.len {l : List SFeatures} (h : Gd l) : l.length ≤ 8 := by
  have := h.f
  unfold fewB at this
  simp only [Bool.and_eq_true, decide_eq_true_eq] at this
  exact this.2
theorem Gd.ofR {l : List SFeatures} (h : Gd l) : ofR l = (ofT l, 0) := by
  unfold Ab.ofR
  rw [if_neg (by rw [List.all_eq_true.2 h.v]; simp), (dup_iff l).2 h.n, if_neg (by simp)]
theorem gd_of {l : List SFeatures} (hf : fewB l = true) (h : (ofR l).2 = 0) : Gd l := by
  unfold ofR at h
  cases hv : l.all fv with
  | false => rw [hv, if_pos rfl] at h; cases h
  | true =>
    rw [hv, if_neg (by simp)] at h
    cases hd : dup l with
    | true => rw [hd, if_pos rfl] at h; cases h
    | false => exact ⟨hf, List.all_eq_true.1 hv, (dup_iff l).1 hd⟩
theorem good_ok {l : List SFeatures} (hl : l.length ≤ 1048576) (h : ∀ f ∈ l, FB f) : ∃ b, m_law30_good FU l = some b ∧ (b = true → Gd l) := by
  unfold m_law30_good
  rw [lfew_ok hl h, Option.bind_some]
  cases hf : fewB l with
  | false => exact ⟨false, rfl, fun h => by cases h⟩
  | true =>
    have h8 : l.length ≤ 8 := by unfold fewB at hf; simp only [Bool.and_eq_true, decide_eq_true_eq] at hf; exact hf.2
    rw [if_neg (by simp), rOf_ok h8 (fun f hf => (h f hf).ok), Option.bind_some]
    exact ⟨_, rfl, fun hb => gd_of hf (by simpa using hb)⟩
theorem table_ok {l : List SFeatures} (g : Gd l) (h : ∀ f ∈ l, FB f) : m_law30_table FU l = some (ofT l, true) := by
  have h8 := g.len
  unfold m_law30_table
  rw [lfew_ok (by omega) h, Option.bind_some, g.f, if_neg (by simp), rOf_ok h8 (fun f hf => (h f hf).ok), Option.bind_some, g.ofR, if_neg (by simp), owns_ok h8, Option.bind_some, Of_ok h8 (fun f hf => (h f hf).ok), Option.bind_some, g.ofR]; rfl
theorem Gd.vt {l : List SFeatures} (g : Gd l) : VT (ofT l) := VT.ofT l g.v g.n
theorem Gd.tb {l : List SFeatures} (g : Gd l) : TBn (ofT l) 340 := by
  have h := TBn.ofT l
  have := g.len
  exact ⟨by have := h.n; omega, fun b hb => by have := h.i b hb; omega⟩
theorem Gd.pairs {l : List SFeatures} (g : Gd l) {n : Int} (h : 2 ≤ n) (h2 : n ≤ 1000) : m_block_Pairs FU (ofT l) n = some (pairsT (ofT l) n, 0) := by
  rw [Pairs_ok ⟨by have := g.tb.n; omega, fun b hb => by have := g.tb.i b hb; omega⟩]
  unfold pairsR
  rw [tabB_iff.2 g.vt, if_neg (by simp), if_neg (by omega)]
end
section
/- Laws of keys, changes and pairs, in plain Lean. Conditions: none. -/
open Go
end
section
/- The law of steps, in plain Lean. Conditions: none. -/
open Go
theorem remN {a b : Nat} (hb : 0 < b) : rem (a : Int) (b : Int) = some ((a % b : Nat) : Int) := by
  unfold rem
  rw [if_neg (by omega)]
  rfl
theorem u8_rem {a : Int} (h : 0 ≤ a ∧ a ≤ 255) {b : Nat} (hb : 0 < b) : ∃ k : Nat, k < b ∧ rem (IntKind.i64.wrap a) (b : Int) = some (k : Int) := by
  refine ⟨a.toNat % b, Nat.mod_lt _ hb, ?_⟩
  rw [w64 (by omega) (by omega)]
  have := remN (a := a.toNat) hb
  rw [show ((a.toNat : Nat) : Int) = a by omega] at this
  exact this
end
section
/- The law of meaning, in plain Lean. Conditions: none. -/
open Go
def hit (P : List SPair) (f h : SFeatures) : Bool := decide (f.fID < h.fID) && decide ((⟨f.fID, h.fID⟩ : SPair) ∈ P)
def hits (P : List SPair) (f : SFeatures) (l : List SFeatures) : List SPair := (l.filter fun h => hit P f h).map fun h => ⟨f.fID, h.fID⟩
def allH (P : List SPair) (l m : List SFeatures) : List SPair := m.flatMap fun f => hits P f l
theorem hits_len {P : List SPair} {f : SFeatures} {l : List SFeatures} : (hits P f l).length ≤ l.length := by
  unfold hits; rw [List.length_map]; exact List.length_filter_le _ _
theorem allH_len {P : List SPair} {l : List SFeatures} : ∀ {m : List SFeatures}, (allH P l m).length ≤ m.length * l.length
  | [] => by simp [allH]
  | f :: m => by
    have h1 := hits_len (P := P) (f := f) (l := l)
    have h2 := allH_len (P := P) (l := l) (m := m)
    show (hits P f l ++ allH P l m).length ≤ _
    rw [List.length_append, List.length_cons, Nat.succ_mul]; omega
theorem allH_perm {l : List SFeatures} (g : Gd l) {n : Int} : (allH (pairsT (ofT l) n) l l).length = (pairsT (ofT l) n).length := by
  refine (perm_of_same ?_ (asc_nodup (lt := ltP) (fun a h => by unfold ltP at h; omega) (pairsT_asc _ n)) fun p => ?_).length_eq
  · unfold allH
    refine List.pairwise_flatMap.2 ⟨fun f hf => ?_, ?_⟩
    · unfold hits
      refine List.pairwise_map.2 ?_
      have := g.n
      unfold ids at this
      have h1 : l.Pairwise (fun a b => a.fID ≠ b.fID) := List.pairwise_map.1 this
      exact (h1.sublist List.filter_sublist).imp (fun {a b} h e => by injection e with _ e; exact h e)
    · have := g.n
      unfold ids at this
      have h1 : l.Pairwise (fun a b => a.fID ≠ b.fID) := List.pairwise_map.1 this
      refine h1.imp (fun {a b} h x hx y hy e => ?_)
      unfold hits at hx hy
      obtain ⟨_, _, rfl⟩ := List.mem_map.1 hx
      obtain ⟨_, _, rfl⟩ := List.mem_map.1 hy
      injection e with e _
      exact h e
  · unfold allH hits
    simp only [List.mem_flatMap, List.mem_map, List.mem_filter]
    constructor
    · rintro ⟨f, _, h, ⟨_, hh⟩, rfl⟩
      unfold hit at hh
      simp only [Bool.and_eq_true, decide_eq_true_eq] at hh
      exact hh.2
    · intro hp
      obtain ⟨b, hb, _, h1, h2, h3⟩ := (pairsT_mem g.vt).1 hp
      obtain ⟨f, hf, _, e1⟩ := (mem_ofT l).1 ((mem_block g.vt hb).2 h1)
      obtain ⟨h, hh, _, e2⟩ := (mem_ofT l).1 ((mem_block g.vt hb).2 h2)
      refine ⟨f, hf, h, ⟨hh, ?_⟩, by rw [← e1, ← e2]⟩
      unfold hit
      rw [← e1, ← e2]
      simp only [Bool.and_eq_true, decide_eq_true_eq]
      exact ⟨h3, hp⟩
end
section
/- The law of growth, in plain Lean. Conditions: none. -/
open Go
theorem inP_ok {P : List SPair} {p : SPair} (hl : P.length ≤ 100000000) : m_law30_BlockGrows_1 FU P p = some (decide (p ∈ P)) := by
  unfold m_law30_BlockGrows_1
  have e := iter_any (ρ := Bool ⊕ Unit) (f := fun s => m_law30_BlockGrows_1_L1 FU P p s) P.length FU (fun i => decide (P.getD i default = p)) (.inl true) (.inr ()) (fun j hj => by
    simp only [m_law30_BlockGrows_1_L1]
    rw [if_pos (decide_eq_true (by omega)), ixL hj, Option.bind_some, wadd1 hj (by simp only [ML]; omega), show P.getD j default = P[j] by simp [hj], show (⟨P[j].fA, P[j].fB⟩ : SPair) = P[j] from rfl, show (⟨p.fA, p.fB⟩ : SPair) = p from rfl]
    split <;> rfl) (by simp [m_law30_BlockGrows_1_L1]) (by simp only [FU]; omega)
  rw [e, Option.bind_some, anyN_getD P default (fun x => decide (x = p))]
  have : (P.any fun x => decide (x = p)) = decide (p ∈ P) := by rw [Bool.eq_iff_iff]; simp
  rw [this]
  cases decide (p ∈ P) <;> rfl
theorem cand_mono {t : List SBlock} {n m : Int} (h : n ≤ m) {p : SPair} (hp : cand t n p) : cand t m p := by
  obtain ⟨b, hb, hl, q⟩ := hp
  exact ⟨b, hb, by omega, q⟩
theorem oth_asc {x : Int} {l : List SPair} (ha : AscP l) (hlt : ∀ p ∈ l, p.fA < p.fB) : AscI (othL x l) := by
  unfold othL
  refine List.pairwise_flatMap.2 ⟨fun p hp => ?_, ?_⟩
  · have := hlt p hp
    by_cases h1 : p.fA = x
    · rw [if_pos h1, if_neg (by omega)]; simp
    · rw [if_neg h1]; split <;> simp
  · refine (ha.imp_of_mem (S := fun p q => ∀ u ∈ ((if p.fA = x then [p.fB] else []) ++ (if p.fB = x then [p.fA] else []) : List Int), ∀ v ∈ ((if q.fA = x then [q.fB] else []) ++ (if q.fB = x then [q.fA] else []) : List Int), u < v) fun {p q} hp hq hpq u hu v hv => ?_)
    have h1 := hlt p hp
    have h2 := hlt q hq
    unfold ltP at hpq
    rw [List.mem_append] at hu hv
    have hu2 : (p.fA = x ∧ u = p.fB) ∨ (p.fB = x ∧ u = p.fA) := by
      rcases hu with hu | hu
      · split at hu
        · exact .inl ⟨by assumption, by simpa using hu⟩
        · cases hu
      · split at hu
        · exact .inr ⟨by assumption, by simpa using hu⟩
        · cases hu
    have hv2 : (q.fA = x ∧ v = q.fB) ∨ (q.fB = x ∧ v = q.fA) := by
      rcases hv with hv | hv
      · split at hv
        · exact .inl ⟨by assumption, by simpa using hv⟩
        · cases hv
      · split at hv
        · exact .inr ⟨by assumption, by simpa using hv⟩
        · cases hv
    omega
theorem cand_old {t : List SBlock} {ks : List (List UInt8)} {x n : Int} (h : VT t) (h2 : VT (putT t ks x)) (hx : hasT t x = false) {p : SPair} (hA : p.fA ≠ x) (hB : p.fB ≠ x) (hp : cand (putT t ks x) n p) : cand t n p := by
  obtain ⟨c, hc, hl, h3, h4, h5⟩ := hp
  have back : ∀ {y : Int}, y ≠ x → y ∈ c.fIDs → mem t c.fKey y := fun hy hm => by
    rcases mem_putT.1 ((mem_block h2 hc).2 hm) with q | q
    · exact q
    · exact absurd q.2 hy
  obtain ⟨b, hb, he, hAb⟩ := back hA h3
  have hBb : p.fB ∈ b.fIDs := by rw [← mem_block h hb, he]; exact back hB h4
  refine ⟨b, hb, ?_, hAb, hBb, h5⟩
  by_cases hk : c.fKey ∈ ks
  · have := put_block h h2 hx hb hc he hk
    rw [this, insI_len] at hl; omega
  · have : c.fIDs = b.fIDs := ascI_ext (h2.b c hc).a (h.b b hb).a fun y => by
      rw [← mem_block h2 hc, mem_putT, ← he, mem_block h hb]
      rw [← he] at hk
      exact ⟨fun q => q.elim id (fun q => absurd q.1 hk), .inl⟩
    rw [← this]; exact hl
theorem gd_pairs_len {l : List SFeatures} (g : Gd l) {n : Int} : (pairsT (ofT l) n).length ≤ 64 := by
  have := allH_perm g (n := n)
  have h2 := allH_len (P := pairsT (ofT l) n) (l := l) (m := l)
  have h3 : l.length * l.length ≤ 8 * 8 := Nat.mul_le_mul g.len g.len
  omega
theorem plain_BlockGrows {l : List SFeatures} {a : A2} (hl : l.length ≤ 1048576) (h : ∀ f ∈ l, FB f) (ha : 0 ≤ a.e0 ∧ a.e0 ≤ 255) (hb : 0 ≤ a.e1 ∧ a.e1 ≤ 255) : m_law30_BlockGrows FU l a = some true := by
  unfold m_law30_BlockGrows
  obtain ⟨b, hgb, hg⟩ := good_ok hl h
  rw [awake_ok, Option.bind_some, hgb]
  cases b with
  | false => rfl
  | true =>
    have g := hg rfl
    have h8 := g.len
    simp only [Bool.not_true, Bool.not_false, if_true, Option.bind_some, Bool.false_or]
    by_cases h0 : l.length = 0
    · rw [if_pos (by simp [h0])]
    · have hpos : 0 < l.length := by omega
      obtain ⟨c, hc, hrem⟩ := u8_rem ha (b := 6) (by decide)
      obtain ⟨d, hd, hrem2⟩ := u8_rem hb (b := 5) (by decide)
      have hw : IntKind.i64.wrap ((2 : Int) + (c : Int)) = ((2 + c : Nat) : Int) := by rw [w64 (by omega) (by omega)]; omega
      have hw2 : IntKind.i64.wrap (((2 + c : Nat) : Int) + (d : Int)) = ((2 + c + d : Nat) : Int) := by rw [w64 (by omega) (by omega)]; omega
      rw [if_neg (by rw [decide_eq_true_eq]; omega), table_ok g h, Option.bind_some, show rem (IntKind.i64.wrap a.e0) (6 : Int) = some (c : Int) from hrem, Option.bind_some, show rem (IntKind.i64.wrap a.e1) (5 : Int) = some (d : Int) from hrem2, Option.bind_some, hw, hw2, g.pairs (by omega) (by omega), Option.bind_some, g.pairs (by omega) (by omega), Option.bind_some]
      rw [if_neg (by simp)]
      have hAl := gd_pairs_len g (n := ((2 + c : Nat) : Int))
      have hBl := gd_pairs_len g (n := ((2 + c + d : Nat) : Int))
      have e1 := iter_any (ρ := Bool ⊕ Unit) (f := fun s => m_law30_BlockGrows_L1 FU (pairsT (ofT l) ((2 + c : Nat) : Int), 0) (pairsT (ofT l) ((2 + c + d : Nat) : Int), 0) s) (pairsT (ofT l) ((2 + c : Nat) : Int)).length FU (fun _ => false) (.inl false) (.inr ()) (fun j hj => by
        simp only [m_law30_BlockGrows_L1]
        have hm := (pairsT_mem g.vt).2 (cand_mono (m := ((2 + c + d : Nat) : Int)) (by omega) ((pairsT_mem g.vt).1 (List.getElem_mem hj)))
        rw [if_pos (decide_eq_true (by omega)), ixL hj, Option.bind_some, inP_ok (by omega), Option.bind_some, decide_eq_true hm, if_neg (by simp), wadd1 hj (by simp only [ML]; omega)]
        rfl) (by simp [m_law30_BlockGrows_L1]) (by simp only [FU]; omega)
      rw [e1, anyN_f.2 (fun _ _ => rfl), if_neg (by simp), Option.bind_some]
      dsimp only
      generalize hN : ((2 + c : Nat) : Int) = N at *
      have hN2 : 2 ≤ N ∧ N ≤ 1000 := by omega
      -- the last record and the others
      have hk : l.length - 1 < l.length := by omega
      have hwl : IntKind.i64.wrap ((l.length : Int) - 1) = ((l.length - 1 : Nat) : Int) := wsub1 hpos (by simp only [ML]; omega)
      have hs : slc l (0 : Int) ((l.length - 1 : Nat) : Int) = some (l.take (l.length - 1)) := by
        unfold slc; rw [if_pos (by omega)]; simp
      have hsplit : l = l.take (l.length - 1) ++ [l[l.length - 1]] := by
        have := take_snocL hk
        rw [show l.length - 1 + 1 = l.length by omega, List.take_length] at this
        exact this
      generalize hz : l[l.length - 1] = z at hsplit
      generalize hm : l.take (l.length - 1) = m at hsplit hs
      have hzl : z ∈ l := by rw [hsplit]; simp
      have hml : ∀ f ∈ m, f ∈ l := fun f hf => by rw [hsplit]; simp [hf]
      have hsub : m.Sublist l := by rw [hsplit]; exact List.sublist_append_left _ _
      have gm : Gd m := ⟨fewB_sub g.f hml hsub.length_le, fun f hf => g.v f (hml f hf), g.n.sublist (hsub.map _)⟩
      have hzn : z.fID ∉ ids m := by
        have := g.n
        rw [hsplit] at this
        unfold ids at this
        rw [List.map_append, List.map_singleton, nd_snoc] at this
        exact this.2
      have hall : ofT l = putT (ofT m) (keys z) z.fID := by rw [hsplit, ofT_snoc]
      have hx : hasT (ofT m) z.fID = false := hasT_ofT hzn
      have hv2 : VT (putT (ofT m) (keys z) z.fID) := by rw [← hall]; exact g.vt
      have hCl := gd_pairs_len gm (n := N)
      have h400 : TBn (ofT m) 400 := ⟨by have := gm.tb.n; omega, fun b hb => by have := gm.tb.i b hb; omega⟩
      have hnear : m_block_Near FU (ofT m) z N = some (nearT (ofT m) N (keys z), 0) := by
        rw [Near_ok h400 (h z hzl).ok]
        unfold nearR
        rw [tabB_iff.2 gm.vt, g.v z hzl, if_neg (by simp), hx, if_neg (by simp), if_neg (by omega)]
      rw [hwl, ixL hk, hz, Option.bind_some, hs, Option.bind_some, table_ok gm (fun f hf => h f (hml f hf)), Option.bind_some]
      dsimp only
      rw [gm.pairs hN2.1 hN2.2, Option.bind_some, show m_law29_Own FU _ = some z from rfl, Option.bind_some, hnear, Option.bind_some, if_neg (by simp)]
      have hlt : ∀ p ∈ pairsT (ofT l) N, p.fA < p.fB := fun p hp => by
        obtain ⟨_, _, _, _, _, q⟩ := (pairsT_mem g.vt).1 hp; exact q
      have hoth : nearT (ofT m) N (keys z) = othL z.fID (pairsT (ofT l) N) := ascI_ext nearT_asc (oth_asc (pairsT_asc _ _) hlt) fun y => by
        rw [nearT_mem, near_cand gm.vt hv2 hx, oth_mem, pairsT_mem g.vt, pairsT_mem g.vt, hall]
      have hold : ∀ p ∈ pairsT (ofT l) N, p.fA ≠ z.fID → p.fB ≠ z.fID → p ∈ pairsT (ofT m) N := fun p hp h1 h2 => by
        rw [pairsT_mem gm.vt]
        have := (pairsT_mem g.vt).1 hp
        rw [hall] at this
        exact cand_old gm.vt hv2 hx h1 h2 this
      have hrng : ∀ p ∈ pairsT (ofT l) N, (1 ≤ p.fA ∧ p.fA ≤ 1000000000) ∧ 1 ≤ p.fB ∧ p.fB ≤ 1000000000 := fun p hp => by
        obtain ⟨b, hb, _, h1, h2, _⟩ := (pairsT_mem g.vt).1 hp
        exact ⟨(g.vt.b b hb).r _ h1, (g.vt.b b hb).r _ h2⟩
      have hzr := (fv_p (g.v z hzl)).d
      rw [hoth]
      generalize pairsT (ofT l) N = P at *
      generalize pairsT (ofT m) N = C at *
      have hNl : ∀ (q : List SPair), (∀ p ∈ q, p.fA < p.fB) → (othL z.fID q).length ≤ q.length := by
        intro q hq
        induction q with
        | nil => simp [othL]
        | cons p q ih =>
          have h1 := ih (fun p hp => hq p (by simp [hp]))
          have h2 := hq p (by simp)
          show (((if p.fA = z.fID then [p.fB] else []) ++ (if p.fB = z.fID then [p.fA] else []) : List Int) ++ othL z.fID q).length ≤ _
          rw [List.length_append, List.length_cons]
          by_cases e1 : p.fA = z.fID
          · rw [if_pos e1, if_neg (by omega)]; simp; omega
          · rw [if_neg e1]
            split <;> simp <;> omega
      have hsn : ∀ (j : Nat) (hj : j < P.length), othL z.fID (P.take (j + 1)) = othL z.fID (P.take j) ++ ((if P[j].fA = z.fID then [P[j].fB] else []) ++ (if P[j].fB = z.fID then [P[j].fA] else [])) := fun j hj => by
        unfold othL
        rw [take_snocL hj, List.flatMap_append]
        simp only [List.flatMap_cons, List.flatMap_nil, List.append_nil]
      have hpre : ∀ j, ∃ r, othL z.fID P = othL z.fID (P.take j) ++ r := fun j => ⟨othL z.fID (P.drop j), by
        unfold othL
        rw [← List.flatMap_append, List.take_append_drop]⟩
      have e2 : iter FU (fun s => m_law30_BlockGrows_L2 FU (P, 0) z (C, 0) (othL z.fID P, 0) s.1 s.2) ((0 : Int), (0 : Int)) = some (.inr (((othL z.fID P).length : Nat) : Int)) := by
        refine iter_to (f := fun s => m_law30_BlockGrows_L2 FU (P, 0) z (C, 0) (othL z.fID P, 0) s.1 s.2) (fun j => (((othL z.fID (P.take j)).length : Int), (j : Int))) P.length FU _ (fun j hj => ?_) ?_ (by simp only [FU]; omega) (by simp [othL])
        · simp only [m_law30_BlockGrows_L2]
          have hp := List.getElem_mem hj
          have hlj := hlt _ hp
          have hr := hrng _ hp
          have hkl := hNl (P.take j) (fun p hp => hlt p (List.mem_of_mem_take hp))
          rw [List.length_take] at hkl
          rw [if_pos (decide_eq_true (by omega)), ixL hj, Option.bind_some]
          have hs1 := hsn j hj
          obtain ⟨r, hr2⟩ := hpre (j + 1)
          generalize P[j] = p at *
          by_cases hin : p.fA = z.fID ∨ p.fB = z.fID
          · obtain ⟨y, hy, hyv⟩ : ∃ y, ((if p.fA = z.fID then [p.fB] else []) ++ (if p.fB = z.fID then [p.fA] else []) : List Int) = [y] ∧ y = p.fA + p.fB - z.fID := by
              rcases hin with e | e
              · exact ⟨p.fB, by rw [if_pos e, if_neg (by omega)]; rfl, by omega⟩
              · exact ⟨p.fA, by rw [if_neg (by omega), if_pos e]; rfl, by omega⟩
            rw [hy] at hs1
            have hfull : othL z.fID P = othL z.fID (P.take j) ++ y :: r := by rw [hr2, hs1]; simp
            have hslc : slc (othL z.fID P) ((othL z.fID (P.take j)).length : Int) (((othL z.fID (P.take j)).length + 1 : Nat) : Int) = some [y] := by
              rw [hfull]
              unfold slc
              rw [if_pos (by simp; omega), Int.toNat_natCast, Int.toNat_natCast]
              rw [List.take_append, List.drop_append]
              simp
            have hw3 : IntKind.i64.wrap (((othL z.fID (P.take j)).length : Int) + 1) = (((othL z.fID (P.take j)).length + 1 : Nat) : Int) := by
              rw [w64 (by omega) (by omega)]; rfl
            have hle : decide (((othL z.fID P).length : Int) ≤ ((othL z.fID (P.take j)).length : Int)) = false := decide_eq_false (by rw [hfull]; simp; omega)
            have hyw : IntKind.i64.wrap ((IntKind.i64.wrap (p.fA + p.fB)) - z.fID) = y := by
              rw [w64 (x := p.fA + p.fB) (by omega) (by omega), w64 (by omega) (by omega)]; omega
            rw [if_pos (by simpa using hin), hle, hw3, hyw]
            simp only [Bool.not_false, if_true, Bool.false_or]
            rw [hslc, Option.bind_some, sameI_ok (by simp), Option.bind_some, decide_eq_true rfl, if_neg (by simp), Option.bind_some]
            dsimp only
            rw [wadd1 hj (by simp only [ML]; omega), hs1]
            simp
          · rw [not_or] at hin
            have hnil : ((if p.fA = z.fID then [p.fB] else []) ++ (if p.fB = z.fID then [p.fA] else []) : List Int) = [] := by
              rw [if_neg hin.1, if_neg hin.2]; rfl
            rw [hnil, List.append_nil] at hs1
            rw [if_neg (by simpa using hin), inP_ok (by omega), Option.bind_some, show (⟨p.fA, p.fB⟩ : SPair) = p from rfl, decide_eq_true (hold p hp hin.1 hin.2), if_neg (by simp), Option.bind_some]
            dsimp only
            rw [wadd1 hj (by simp only [ML]; omega), hs1]
        · simp only [m_law30_BlockGrows_L2]; rw [if_neg (by simp), List.take_length]
      rw [e2, Option.bind_some]
      simp
end
end Go.Proofs.YtkdefjliknpliaaGreatDoor.Ab
