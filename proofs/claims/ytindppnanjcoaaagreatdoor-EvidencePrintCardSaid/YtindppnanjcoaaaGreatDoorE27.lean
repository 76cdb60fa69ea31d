/- Regions whose order is drawn: every order leads to what one leads to. Regions whose order is drawn, against the model; code; calls. The program for the reader, and calls that are known. Conditions: none. -/
import Derived.Test.YtindppnanjcoaaaGreatDoorE24
import Derived.Test.YtindppnanjcoaaaGreatDoorE2
import Derived.Test.YtindppnanjcoaaaGreatDoorProg
section
namespace Go.Proofs.YtindppnanjcoaaaGreatDoor.Ev
open Go
open Ab (OpRuns)

theorem hasB_eq (m i : Nat) : hasB m i = m.testBit i := by
  show Nat.beq (m / 2 ^ i % 2) 1 = m.testBit i
  rw [nbeq, Nat.testBit_eq_decide_div_mod_eq]

theorem edges_spec {acc : Nat → Nat} {k : Nat} : ∀ {l : List Edge} {m : Nat}, hasB (edges acc l m) k = true → hasB m k = true ∨ ∃ e, e ∈ l ∧ Region.binds .any e = true ∧ (e.on = k ∨ hasB (acc e.on) k = true)
  | [], m, h => .inl h
  | e :: r, m, h => by
    simp only [edges] at h
    cases hb : Region.binds .any e with
    | false =>
      rw [hb] at h
      rcases edges_spec h with h | ⟨e', h1, h2⟩
      · exact .inl h
      · exact .inr ⟨e', List.mem_cons_of_mem _ h1, h2⟩
    | true =>
      rw [hb] at h
      rcases edges_spec h with h | ⟨e', h1, h2⟩
      · rw [hasB_eq] at h
        have h : ((m ||| 2 ^ e.on) ||| acc e.on).testBit k = true := h
        rw [Nat.testBit_or, Nat.testBit_or, Nat.testBit_two_pow] at h
        simp only [Bool.or_eq_true, decide_eq_true_eq] at h
        rcases h with (h | h) | h
        · exact .inl (by rw [hasB_eq]; exact h)
        · exact .inr ⟨e, List.mem_cons_self, hb, .inl h⟩
        · exact .inr ⟨e, List.mem_cons_self, hb, .inr (by rw [hasB_eq]; exact h)⟩
      · exact .inr ⟨e', List.mem_cons_of_mem _ h1, h2⟩

theorem befo_spec {L : Nat → Prop} : ∀ {os : List Oper} {acc : List Nat}, (∀ (j : Nat) o, os[j]? = some o → L (acc.length + j) → ∀ e, e ∈ o.after.toList → Region.binds .any e = true → L e.on) →
    (∀ (j : Nat) m, acc[j]? = some m → L j → ∀ k, hasB m k = true → L k) → ∀ (j : Nat) m, (befo os acc)[j]? = some m → L j → ∀ k, hasB m k = true → L k
  | [], acc, _, h => h
  | o :: r, acc, hc, h => by
    simp only [befo]
    refine befo_spec (fun j o' ho hl e he hb => hc (j + 1) o' (by simpa using ho) (by simp at hl; rwa [show acc.length + (j + 1) = acc.length + 1 + j by omega]) e he hb) (fun j m hm hl k hk => ?_)
    rcases Nat.lt_or_ge j acc.length with hj | hj
    · rw [List.getElem?_append_left hj] at hm; exact h j m hm hl k hk
    · rw [List.getElem?_append_right hj] at hm
      by_cases hj2 : j = acc.length
      · subst hj2
        simp only [Nat.sub_self, List.getElem?_cons_zero, Option.some.injEq] at hm
        subst hm
        rcases edges_spec hk with hk | ⟨e, h1, h2, h3⟩
        · rw [hasB_eq] at hk; simp at hk
        · have hLe := hc 0 o rfl (by simpa using hl) e h1 h2
          rcases h3 with rfl | h3
          · exact hLe
          · rw [nth_eq] at h3
            cases hq : acc[e.on]? with
            | none => rw [hq] at h3; simp [hasB_eq] at h3
            | some q => rw [hq] at h3; exact h _ q hq hLe k h3
      · rw [List.getElem?_eq_none (by simp; omega)] at hm; cases hm
theorem befo_length : ∀ {os : List Oper} {acc : List Nat}, (befo os acc).length = acc.length + os.length
  | [], acc => rfl
  | o :: r, acc => by simp only [befo]; rw [befo_length]; simp; omega

theorem unordJ_mem {m j : Nat} : ∀ {c : Nat} {p : Nat × Nat}, p ∈ unordJ m j c ↔ p.2 = j ∧ p.1 < c ∧ hasB m p.1 = false
  | 0, p => by simp [unordJ]
  | c + 1, p => by
    simp only [unordJ]
    cases hb : hasB m c with
    | true =>
      simp only [cond_true, unordJ_mem]
      constructor
      · rintro ⟨h1, h2, h3⟩; exact ⟨h1, by omega, h3⟩
      · rintro ⟨h1, h2, h3⟩
        refine ⟨h1, ?_, h3⟩
        rcases Nat.lt_or_ge p.1 c with h | h
        · exact h
        · have : p.1 = c := by omega
          rw [this, hb] at h3; cases h3
    | false =>
      simp only [cond_false, List.mem_cons, unordJ_mem]
      constructor
      · rintro (rfl | ⟨h1, h2, h3⟩)
        · exact ⟨rfl, by simp, hb⟩
        · exact ⟨h1, by omega, h3⟩
      · rintro ⟨h1, h2, h3⟩
        by_cases h : p.1 = c
        · left; obtain ⟨a, b⟩ := p; simp only at h h1; rw [h, h1]
        · exact .inr ⟨h1, by omega, h3⟩
theorem unordF_mem : ∀ {ms : List Nat} {j : Nat} {p : Nat × Nat}, p ∈ unordF ms j ↔ ∃ c m, ms[c]? = some m ∧ p.2 = j + c ∧ p.1 < j + c ∧ hasB m p.1 = false
  | [], j, p => by simp [unordF]
  | m :: r, j, p => by
    simp only [unordF, List.mem_append, unordJ_mem, unordF_mem]
    constructor
    · rintro (⟨h1, h2, h3⟩ | ⟨c, q, h0, h1, h2, h3⟩)
      · exact ⟨0, m, rfl, h1, h2, h3⟩
      · exact ⟨c + 1, q, by simpa using h0, by omega, by omega, h3⟩
    · rintro ⟨c, q, h0, h1, h2, h3⟩
      cases c with
      | zero => simp at h0; subst h0; exact .inl ⟨h1, h2, h3⟩
      | succ c => exact .inr ⟨c, q, by simpa using h0, by omega, by omega, h3⟩

theorem unord_lt {ops : Array Oper} {p : Nat × Nat} (h : p ∈ unord ops) : p.1 < p.2 := by
  obtain ⟨c, m, _, h1, h2, _⟩ := unordF_mem.1 h
  omega

theorem edgesOk_spec : ∀ {os : List Oper} {k : Nat}, edgesOk os k = true → ∀ (j : Nat) o, os[j]? = some o → ∀ e, e ∈ o.after → Region.binds .any e = true → e.on < k + j
  | [], _, _ => by simp
  | o :: r, k, h => by
    simp only [edgesOk, Bool.and_eq_true, List.all_eq_true] at h
    intro j o' ho e he hb
    cases j with
    | zero =>
      simp at ho; subst ho
      have := h.1 e (by simpa using he)
      simp only [hb, Bool.not_true, Bool.false_or, Nat.blt_eq] at this
      omega
    | succ j =>
      have := edgesOk_spec h.2 j o' (by simpa using ho) e he hb
      omega

theorem memN_mem {l : List Nat} {i : Nat} (h : memN l i = false) : i ∉ l := by
  intro hm
  have : memN l i = true := by
    unfold memN
    rw [List.any_eq_true]
    exact ⟨i, hm, Nat.beq_refl i⟩
  rw [this] at h; cases h

section
variable {C : Cx} {rn : Rn} {n n0 : Nat} {ops : Array Oper}

theorem apart_spec {a b : Nat} {oa ob : Oper} (ha : ops[a]? = some oa) (hb : ops[b]? = some ob) (h : apart ops (a, b) = true) :
    (∀ d, oa.dst = some d → d ∉ slots ops ob ∧ ob.dst ≠ some d) ∧ ∀ d, ob.dst = some d → d ∉ slots ops oa := by
  unfold apart at h
  rw [nth_eq, nth_eq] at h
  simp only [Array.getElem?_toList, ha, hb, Bool.and_eq_true] at h
  refine ⟨fun d hd => ?_, fun d hd => ?_⟩
  · have h1 := h.1
    rw [hd] at h1
    simp only [Bool.and_eq_true, Bool.not_eq_true'] at h1
    refine ⟨memN_mem h1.1, fun hc => ?_⟩
    have := memN_mem h1.2
    rw [hc] at this
    simp at this
  · have h1 := h.2
    rw [hd] at h1
    simp only [Bool.not_eq_true'] at h1
    exact memN_mem h1

/-- One operation of a region: what it leads to. -/
def StR (C : Cx) (rn : Rn) (n n0 : Nat) (ops : Array Oper) (i : Nat) (k : Kind) (s s' : Env × Hp) : Prop :=
  ∃ o v, ops[i]? = some o ∧ stpV C rn n0 (jdOf C n ops i o) s.1 s.2 = some (k, v, s'.2) ∧ s'.1 = putE s.1 (o.dst.map (setF CV 3)) v
def RunR (C : Cx) (rn : Rn) (n n0 : Nat) (ops : Array Oper) (kf : Nat → Kind) : List Nat → Env × Hp → Env × Hp → Prop
  | [], s, t => s = t
  | i :: l, s, t => ∃ s1, StR C rn n n0 ops i (kf i) s s1 ∧ RunR C rn n n0 ops kf l s1 t

/-- A state that the model may be in. -/
def Con (n n0 : Nat) (ops : Array Oper) (s : Env × Hp) : Prop := (∃ σ a w, Sim n σ s.1 s.2 a w) ∧ n0 ≤ s.2.n ∧ s.2.fl ≤ n0 ∧ ((rvOf ops).isSome = true → n0 < s.2.n)

theorem jd_kept {i : Nat} {o : Oper} (h : (jdOf C n ops i o).rv = true ∨ (jdOf C n ops i o).hid = true) : (rvOf ops).isSome = true := by
  cases hr : rvOf ops with
  | some r => rfl
  | none =>
    unfold jdOf at h
    rw [hr] at h
    rcases h with h | h <;> cases h

theorem Con.kept {s : Env × Hp} (hc : Con n n0 ops s) {i : Nat} {o : Oper} (h : (jdOf C n ops i o).rv = true ∨ (jdOf C n ops i o).hid = true) : n0 < s.2.n ∧ s.2.fl ≤ n0 := ⟨hc.2.2.2 (jd_kept h), hc.2.2.1⟩

theorem Con.step (hrn : RnOK C.P rn) {i : Nat} {k : Kind} {s s' : Env × Hp} (h : StR C rn n n0 ops i k s s') (hc : Con n n0 ops s) : Con n n0 ops s' ∧ s'.2.fl = s.2.fl ∧ s.2.n ≤ s'.2.n := by
  obtain ⟨o, v, ho, h1, h2⟩ := h
  obtain ⟨σ, a, w, hs⟩ := hc.1
  obtain ⟨σ', a', w', k1, k2⟩ := stpV_con hrn h1 (fun hh => hc.kept hh) hs
  rw [(jd_ok h1).2.2.1, ← h2] at k1
  exact ⟨⟨⟨σ', a', w', k1⟩, Nat.le_trans hc.2.1 k2.n, by rw [k2.fl]; exact hc.2.2.1, fun hh => Nat.lt_of_lt_of_le (hc.2.2.2 hh) k2.n⟩, k2.fl, k2.n⟩

theorem stpV_quiet {i : Nat} {o : Oper} {E : Env} {H H' : Hp} {k : Kind} {v : CV} (ho : loudS o.op = false) (h : stpV C rn n0 (jdOf C n ops i o) E H = some (k, v, H')) : k = .n := by
  obtain ⟨-, hc, -, -⟩ := jd_ok h
  have hcl : ∀ f xs, comp C.P o.op o.type ≠ .cl f xs := fun f xs hcc => by
    obtain ⟨g, ys, ts, hop, -, -⟩ := comp_cl hcc
    rw [hop] at ho; cases ho
  have hH : ∀ {kk K r}, stpH C rn n0 (jdOf C n ops i o) kk E K = some r → kindI E (jdOf C n ops i o).j.i (jdOf C n ops i o).pair = .n := fun hh => by
    unfold stpH at hh
    split at hh
    · rename_i f xs hf; rw [hc] at hf; exact absurd hf (hcl f xs)
    · rw [hc] at hh ⊢; exact quiet_kind ho hh
  unfold stpV at h
  cases hw : want E (jdOf C n ops i o).j.g with
  | true =>
    rw [hw] at h
    simp only [cond_true] at h
    split at h
    · rename_i v' H3 h3
      cases h
      unfold stpW at h3
      cases hh : (jdOf C n ops i o).hid with
      | false => rw [hh] at h3; exact hH h3
      | true =>
        rw [hh] at h3
        simp only [cond_true] at h3
        split at h3
        · rename_i h4; exact hH h4
        · cases h3
    · cases h
  | false =>
    rw [hw] at h
    simp only [cond_false] at h
    cases hy : yes E (jdOf C n ops i o).j.g with
    | false => rw [hy] at h; cases h
    | true => rw [hy] at h; cases h; rfl

theorem opAt_eq {i : Nat} {o : Oper} {f : Op → Bool} (ho : ops[i]? = some o) : opAt ops i f = f o.op := by
  unfold opAt
  rw [nth_eq, Array.getElem?_toList, ho]

theorem rvOf_alloc {r : Nat} (h : rvOf ops = some r) : opAt ops r allocS = true := by
  unfold rvOf at h
  split at h
  · cases h
  · rename_i i j l hl
    have hm : (i, j) ∈ (loudP ops).filter fun p => (opAt ops p.1 allocS && opAt ops p.2 growS) || (opAt ops p.2 allocS && opAt ops p.1 growS) := by rw [hl]; exact List.mem_cons_self
    have := (List.mem_filter.1 hm).2
    cases hi : opAt ops i allocS with
    | true => rw [hi] at h; cases h; exact hi
    | false =>
      rw [hi] at h; cases h
      simp only [hi, Bool.false_and, Bool.false_or, Bool.and_eq_true] at this
      exact this.1

theorem hid_self {r : Nat} : hidS ops (some r) r = false := by
  simp only [hidS]
  rw [← Bool.not_eq_true, List.any_eq_true]
  rintro ⟨p, hp, h⟩
  have hlt := unord_lt hp
  simp only [Bool.or_eq_true, Bool.and_eq_true, Nat.beq_eq] at h
  omega
theorem hid_of {a b r : Nat} (h : (a, b) ∈ unord ops) (hr : a = r ∨ b = r) : hidS ops (some r) (if a = r then b else a) = true := by
  simp only [hidS, List.any_eq_true]
  refine ⟨(a, b), h, ?_⟩
  simp only [Bool.or_eq_true, Bool.and_eq_true, Nat.beq_eq]
  split
  · rename_i ha; exact .inr ⟨ha, rfl⟩
  · rename_i ha; exact .inl ⟨rfl, hr.resolve_left ha⟩

theorem pairOK_of {ks : List Kind} (hkk : (loudP ops).all (okK (rvOf ops) n0 ks) = true) {a b : Nat} {oa ob : Oper} (ha : ops[a]? = some oa) (hb : ops[b]? = some ob) (hu : (a, b) ∈ unord ops) {ka kb : Kind} (hka : nth ks a = some ka) (hkb : nth ks b = some kb)
    {Ea Eb : Env} {Ha Hb Ha' Hb' : Hp} {va vb : CV} (h1 : stpV C rn n0 (jdOf C n ops a oa) Ea Ha = some (ka, va, Ha')) (h2 : stpV C rn n0 (jdOf C n ops b ob) Eb Hb = some (kb, vb, Hb')) :
    PairOK C n0 (jdOf C n ops a oa) (jdOf C n ops b ob) ka kb := by
  by_cases hla : loudS oa.op = false
  · exact .na (stpV_quiet hla h1)
  by_cases hlb : loudS ob.op = false
  · exact .nb (stpV_quiet hlb h2)
  simp only [Bool.not_eq_false] at hla hlb
  have hm : (a, b) ∈ loudP ops := List.mem_filter.2 ⟨hu, by simp only [opAt_eq ha, opAt_eq hb, hla, hlb, Bool.and_self]⟩
  have hk := (List.all_eq_true.1 hkk) (a, b) hm
  have hca := (jd_ok h1).2.1
  have hcb := (jd_ok h2).2.1
  unfold okK at hk
  cases hr : rvOf ops with
  | none =>
    rw [hr] at hk
    simp only [hka, hkb] at hk
    refine .cm ?_ ?_ ?_ ?_ hk <;> (unfold jdOf; rw [hr]; first | done | rfl)
  | some r =>
    rw [hr] at hk
    simp only [hka, hkb, Bool.or_eq_true, Nat.beq_eq, Bool.and_eq_true] at hk
    have hal := rvOf_alloc hr
    rcases hk with (rfl | rfl) | ⟨h3, h4⟩
    · refine .ra ?_ ?_ oa.op oa.type hca (by rwa [opAt_eq ha] at hal) ?_
      · unfold jdOf; rw [hr]; simp
      · unfold jdOf; rw [hr]; exact hid_self
      · unfold jdOf; rw [hr]
        have := hid_of hu (.inl rfl)
        rwa [if_pos rfl] at this
    · refine .rb ?_ ?_ ob.op ob.type hcb (by rwa [opAt_eq hb] at hal) ?_
      · unfold jdOf; rw [hr]; simp
      · unfold jdOf; rw [hr]; exact hid_self
      · unfold jdOf; rw [hr]
        have := hid_of hu (.inr rfl)
        rwa [if_neg (by have := unord_lt hu; simp only at this; omega)] at this
    · exact .rd h3 h4

theorem putE_comm {E : Env} {da db : Option Nat} {va vb : CV} (ha : ∀ d, da = some d → d < 512) (hb : ∀ d, db = some d → d < 512) (h : ∀ d, da = some d → db ≠ some d) :
    putE (putE E (da.map (setF CV 3)) va) (db.map (setF CV 3)) vb = putE (putE E (db.map (setF CV 3)) vb) (da.map (setF CV 3)) va := by
  cases da with
  | none => rfl
  | some a =>
    cases db with
    | none => rfl
    | some b =>
      have h1 := ha a rfl
      have h2 := hb b rfl
      refine set_comm 3 b a vb va E ?_
      rw [Nat.mod_eq_of_lt (by simpa using h2), Nat.mod_eq_of_lt (by simpa using h1)]
      intro hc
      exact h a rfl (by rw [hc])

theorem ag_put {o : Oper} {E : Env} {d : Option Nat} {v : CV} (hd : ∀ x, d = some x → x < 512) (h : ∀ x, d = some x → x ∉ slots ops o) : AgS ops o (putE E (d.map (setF CV 3)) v) E := by
  intro t ht hlt
  cases d with
  | none => rfl
  | some x =>
    refine get_ne 3 t x v E ?_
    have h1 := hd x rfl
    rw [Nat.mod_eq_of_lt (by simpa using hlt), Nat.mod_eq_of_lt (by simpa using h1)]
    intro hc; rw [hc] at ht; exact h x rfl ht

theorem dst_lt {o : Oper} (h : dstOk n o.dst = true) : ∀ d, o.dst = some d → d < 512 := by
  intro d hd
  rw [hd] at h
  simp only [dstOk, Bool.and_eq_true, Nat.blt_eq, Nat.ble_eq] at h
  exact Nat.lt_of_lt_of_le h.1 h.2

theorem swapS (hrn : RnOK C.P rn) (hap : (unord ops).all (apart ops) = true) {ks : List Kind} (hkk : (loudP ops).all (okK (rvOf ops) n0 ks) = true) {a b : Nat} (hu : (a, b) ∈ unord ops) {ka kb : Kind} (hka : nth ks a = some ka) (hkb : nth ks b = some kb)
    {s s1 s2 : Env × Hp} (hc : Con n n0 ops s) (h1 : StR C rn n n0 ops a ka s s1) (h2 : StR C rn n n0 ops b kb s1 s2) : ∃ s3, StR C rn n n0 ops b kb s s3 ∧ StR C rn n n0 ops a ka s3 s2 := by
  obtain ⟨c1, f1, m1⟩ := hc.step hrn h1
  obtain ⟨c2, f2, m2⟩ := c1.step hrn h2
  obtain ⟨oa, va, ha, a1, a2⟩ := h1
  obtain ⟨ob, vb, hb, b1, b2⟩ := h2
  obtain ⟨da, db⟩ := apart_spec ha hb ((List.all_eq_true.1 hap) _ hu)
  have la := dst_lt (jd_ok a1).1
  have lb := dst_lt (jd_ok b1).1
  have hp := pairOK_of hkk ha hb hu hka hkb a1 b1
  have b3 : stpV C rn n0 (jdOf C n ops b ob) s.1 s1.2 = some (kb, vb, s2.2) := by
    refine stpV_congr (E := s1.1) ?_ b1
    rw [a2]
    exact ag_put la (fun x hx => (da x hx).1)
  obtain ⟨σ, ac, w, hs⟩ := hc.1
  obtain ⟨σ1, ac1, w1, hs1⟩ := c1.1
  obtain ⟨H3, e1, e2⟩ := swapH (jd_ok a1).2.1 (jd_ok b1).2.1 hp a1 b3 f1 f2
    (fun q1 q2 q3 i hi => by subst q3; exact stpV_x hrn a1 q1 q2 hs (Nat.lt_of_lt_of_le hi hc.2.1))
    (fun q1 q2 q3 i hi => by subst q3; exact stpV_x hrn b1 q1 q2 hs1 (Nat.lt_of_lt_of_le hi c1.2.1))
  refine ⟨(putE s.1 (ob.dst.map (setF CV 3)) vb, H3), ⟨ob, vb, hb, e1, rfl⟩, oa, va, ha, ?_, ?_⟩
  · refine stpV_congr (E := s.1) ?_ e2
    intro t ht hlt
    exact (ag_put lb db t ht hlt).symm
  · rw [b2, a2]
    exact putE_comm la lb (fun d hd => (da d hd).2)

theorem bubble (hrn : RnOK C.P rn) (hap : (unord ops).all (apart ops) = true) {ks : List Kind} (hkk : (loudP ops).all (okK (rvOf ops) n0 ks) = true) {kf : Nat → Kind} (hkf : ∀ i, i < ops.size → nth ks i = some (kf i)) {i : Nat} (hi : i < ops.size) {post : List Nat} {t : Env × Hp} :
    ∀ {pre : List Nat} {s : Env × Hp}, Con n n0 ops s → (∀ k, k ∈ pre → k < ops.size ∧ (k, i) ∈ unord ops) → RunR C rn n n0 ops kf (pre ++ i :: post) s t → ∃ s1, StR C rn n n0 ops i (kf i) s s1 ∧ RunR C rn n n0 ops kf (pre ++ post) s1 t
  | [], s, _, _, h => h
  | k :: pre, s, hc, hp, h => by
    obtain ⟨s1, h1, h2⟩ := h
    obtain ⟨s2, h3, h4⟩ := bubble hrn hap hkk hkf hi (hc.step hrn h1).1 (fun q hq => hp q (List.mem_cons_of_mem _ hq)) h2
    obtain ⟨q1, q2⟩ := hp k List.mem_cons_self
    obtain ⟨s3, h5, h6⟩ := swapS hrn hap hkk q2 (hkf k q1) (hkf i hi) hc h1 h3
    exact ⟨s3, h5, s2, h6, h4⟩

theorem runR_of {E' : Env} {H' : Hp} {kf : Nat → Kind} : ∀ {m k0 : Nat} {ks : List Kind} {E : Env} {H : Hp}, k0 + m ≤ ops.size →
    stps C rn n0 ((List.range' k0 m).map fun i => match nth ops.toList i with
      | some o => ⟨compJ C.P n ops o, inP (loudP ops) i, hidS ops (rvOf ops) i, (match rvOf ops with | some r => Nat.beq r i | none => false)⟩
      | none => ⟨⟨none, .bad, none⟩, false, false, false⟩) E H = some (ks, E', H') →
    ks.length = m ∧ ((∀ i, i < m → nth ks i = some (kf (k0 + i))) → RunR C rn n n0 ops kf (List.range' k0 m) (E, H) (E', H'))
  | 0, k0, ks, E, H, _, h => by
    simp only [List.range'_zero, List.map_nil, stps, Option.some.injEq, Prod.mk.injEq] at h
    obtain ⟨rfl, rfl, rfl⟩ := h
    exact ⟨rfl, fun _ => rfl⟩
  | m + 1, k0, ks, E, H, hle, h => by
    have hlt : k0 < ops.size := by omega
    have hk : nth ops.toList k0 = some ops[k0] := by rw [nth_eq, Array.getElem?_toList]; simp
    rw [List.range'_succ, List.map_cons, stps] at h
    simp only [hk] at h
    split at h
    · rename_i k E1 H1 h1
      split at h
      · rename_i ks' E2 H2 h2
        simp only [Option.some.injEq, Prod.mk.injEq] at h
        obtain ⟨rfl, rfl, rfl⟩ := h
        obtain ⟨e1, e2⟩ := runR_of (kf := kf) (m := m) (k0 := k0 + 1) (by omega) h2
        refine ⟨by simp [e1], fun hkf => ?_⟩
        rw [List.range'_succ]
        unfold stp at h1
        split at h1
        · rename_i k' v H3 h3
          simp only [Option.some.injEq, Prod.mk.injEq] at h1
          obtain ⟨rfl, rfl, rfl⟩ := h1
          have hk0 := hkf 0 (by omega)
          rw [nth_eq] at hk0
          simp only [List.getElem?_cons_zero, Nat.add_zero, Option.some.injEq] at hk0
          subst hk0
          refine ⟨(_, H3), ⟨ops[k0], v, by simp, h3, ?_⟩, e2 fun i hi => ?_⟩
          · show putE E (compJ C.P n ops ops[k0]).d v = _
            rw [show (compJ C.P n ops ops[k0]).d = ops[k0].dst.map (setF CV 3) from (jd_ok (i := k0) h3).2.2.1]
          · have := hkf (i + 1) (by omega)
            rw [nth_eq] at this ⊢
            rw [show k0 + 1 + i = k0 + (i + 1) by omega]
            simpa using this
        · cases h1
      · cases h
    · cases h
end
end Go.Proofs.YtindppnanjcoaaaGreatDoor.Ev
end
section
namespace Go.Proofs.YtindppnanjcoaaaGreatDoor.Ev
open Go
open Ab (OpRuns)

def unl (ops : Array Oper) (listed : Array Bool) : List Nat := (List.range ops.size).filter fun i => !listed.getD i true

theorem set_getD {listed : Array Bool} {i j : Nat} (hi : i < listed.size) : (listed.setIfInBounds i true).getD j true = true ↔ (j = i ∨ listed.getD j true = true) := by
  by_cases hji : j = i
  · subst hji
    simp [Array.getD, hi]
  · simp [Array.getD_eq_getD_getElem?, Array.getElem?_setIfInBounds_ne (fun h => hji h.symm), hji]

theorem unl_split {ops : Array Oper} {listed : Array Bool} (hsz : listed.size = ops.size) {i : Nat} (hi : i < ops.size) (hl : listed.getD i true = false) :
    ∃ pre post, unl ops listed = pre ++ i :: post ∧ unl ops (listed.setIfInBounds i true) = pre ++ post ∧ ∀ k, k ∈ pre → k < i ∧ listed.getD k true = false := by
  have hr : List.range ops.size = List.range' 0 i ++ i :: List.range' (i + 1) (ops.size - i - 1) := by
    rw [List.range_eq_range', ← List.range'_succ]
    have := List.range'_append (s := 0) (m := i) (n := ops.size - i - 1 + 1) (step := 1)
    simp only [Nat.one_mul, Nat.zero_add] at this
    rw [this]
    congr 1
    omega
  have hne : ∀ k, k ≠ i → (!(listed.setIfInBounds i true).getD k true) = !listed.getD k true := fun k hk => by
    simp [Array.getD_eq_getD_getElem?, Array.getElem?_setIfInBounds_ne (fun h => hk h.symm)]
  have hs : (listed.setIfInBounds i true).getD i true = true := (set_getD (by omega)).2 (.inl rfl)
  refine ⟨(List.range' 0 i).filter fun k => !listed.getD k true, (List.range' (i + 1) (ops.size - i - 1)).filter fun k => !listed.getD k true, ?_, ?_, ?_⟩
  · rw [unl, hr, List.filter_append, List.filter_cons, hl]; rfl
  · rw [unl, hr, List.filter_append, List.filter_cons, hs]
    simp only [Bool.not_true, Bool.false_eq_true, if_false]
    congr 1
    · exact List.filter_congr fun k hk => hne k (by simp only [List.mem_range'_1] at hk; omega)
    · exact List.filter_congr fun k hk => hne k (by simp only [List.mem_range'_1] at hk; omega)
  · intro k hk
    simp only [List.mem_filter, List.mem_range'_1, Bool.not_eq_true'] at hk
    exact ⟨by omega, hk.2⟩

section
variable {C : Cx} {rn : Rn} {n n0 : Nat} {ops : Array Oper}

theorem order_ok (hrn : RnOK C.P rn) (hok : okS ops = true) {ks : List Kind} (hkk : (loudP ops).all (okK (rvOf ops) n0 ks) = true) {E0 E' : Env} {H1 H' : Hp} (hst : stps C rn n0 (compD C n ops) E0 H1 = some (ks, E', H'))
    {σ0 : Sg} {a0 : Act} {w0 : World} (hs0 : Sim n σ0 E0 H1 a0 w0) (h1 : n0 ≤ H1.n) (h2 : H1.fl ≤ n0) (h3 : (rvOf ops).isSome = true → n0 < H1.n) :
    wpAny C.P .any ops (fun e a' w' => e = .normal ∧ ∃ σ', Sim n σ' E' H' a' w' ∧ Evo σ0 H1 w0 σ' H' w') ops.size (Array.replicate ops.size false) a0 w0 := by
  simp only [okS, Bool.and_eq_true] at hok
  obtain ⟨hed, hap⟩ := hok
  have hedge : ∀ (j : Nat) o, ops[j]? = some o → ∀ e, e ∈ o.after → Region.binds .any e = true → e.on < j := fun j o ho e he hb => by
    have := edgesOk_spec hed j o (by simpa using ho) e he hb
    omega
  have hrun0 : ∃ kf : Nat → Kind, (∀ i, i < ops.size → nth ks i = some (kf i)) ∧ RunR C rn n n0 ops kf (List.range ops.size) (E0, H1) (E', H') := by
    have hst' := hst
    unfold compD at hst'
    rw [List.range_eq_range'] at hst' ⊢
    obtain ⟨e1, e2⟩ := runR_of (kf := fun i => (ks[i]?).getD .b) (by omega) hst'
    have hkf : ∀ i, i < ops.size → nth ks i = some ((ks[i]?).getD .b) := fun i hi => by
      rw [nth_eq]
      have : i < ks.length := by omega
      simp [this]
    exact ⟨_, hkf, e2 fun i hi => by rw [Nat.zero_add]; exact hkf i hi⟩
  obtain ⟨kf, hkf, hrun0⟩ := hrun0
  let J : Array Bool → Act → World → Prop := fun listed a w => listed.size = ops.size ∧
    (∀ (j : Nat) o, ops[j]? = some o → listed.getD j true = true → ∀ e, e ∈ o.after → Region.binds .any e = true → listed.getD e.on true = true) ∧
    ∃ s σ, Sim n σ s.1 s.2 a w ∧ Evo σ0 H1 w0 σ s.2 w ∧ Con n n0 ops s ∧ RunR C rn n n0 ops kf (unl ops listed) s (E', H')
  have hdone : ∀ listed a w, J listed a w → Region.ready .any ops listed = [] → ∃ σ', Sim n σ' E' H' a w ∧ Evo σ0 H1 w0 σ' H' w := by
    rintro listed a w ⟨hsz, hcl, s, σ, hs, he, hc, hr⟩ hrd
    have hall : ∀ i, i < ops.size → listed.getD i true = true := by
      intro i
      induction i using Nat.strongRecOn with
      | _ i ih =>
        intro hi
        obtain ⟨o, ho⟩ : ∃ o, ops[i]? = some o := ⟨ops[i], by simp⟩
        cases hl : listed.getD i true with
        | true => rfl
        | false =>
          exfalso
          have : i ∈ Region.ready .any ops listed := by
            simp only [Region.ready, List.mem_filter, List.mem_range]
            refine ⟨hi, ?_⟩
            simp only [hl, Bool.not_false, ho, Option.map_some, Option.getD_some, Bool.true_and, Array.all_eq_true]
            intro k hk
            cases hb : Region.binds .any o.after[k] with
            | false => simp
            | true =>
              have hlt := hedge i o ho _ (Array.getElem_mem hk) hb
              have := ih _ hlt (by omega)
              simp only [Bool.not_true, Bool.false_or]
              have hlt2 : o.after[k].on < listed.size := by omega
              simpa [Array.getD, hlt2] using this
          rw [hrd] at this; cases this
    have hnil : unl ops listed = [] := by
      apply List.filter_eq_nil_iff.2
      intro x hx
      rw [hall x (List.mem_range.1 hx)]
      simp
    rw [hnil] at hr
    have hr : s = (E', H') := hr
    subst hr
    exact ⟨σ, hs, he⟩
  have hone : ∀ listed a w i, J listed a w → i ∈ Region.ready .any ops listed →
      wpOp C.P ops (fun e a' w' => e = .normal ∧ ∃ σ', Sim n σ' E' H' a' w' ∧ Evo σ0 H1 w0 σ' H' w') i (fun a' w' => J (listed.setIfInBounds i true) a' w') a w := by
    rintro listed a w i ⟨hsz, hcl, s, σ, hs, he, hc, hr⟩ hrd
    simp only [Region.ready, List.mem_filter, List.mem_range, Bool.and_eq_true, Bool.not_eq_true'] at hrd
    obtain ⟨hi, hni, hpre⟩ := hrd
    obtain ⟨o, ho⟩ : ∃ o, ops[i]? = some o := ⟨ops[i], by simp⟩
    simp only [ho, Option.map_some, Option.getD_some, Array.all_eq_true] at hpre
    have hpre1 : ∀ e, e ∈ o.after → Region.binds .any e = true → listed.getD e.on true = true := by
      intro e he hb
      obtain ⟨k, hk, rfl⟩ := Array.mem_iff_getElem.1 he
      have := hpre k hk
      simp only [hb, Bool.not_true, Bool.false_or] at this
      have hon := hedge i o ho _ (Array.getElem_mem hk) hb
      have hon2 : o.after[k].on < listed.size := by omega
      simpa [Array.getD, hon2] using this
    have hcl' : ∀ (j : Nat) o', ops[j]? = some o' → (listed.setIfInBounds i true).getD j true = true → ∀ e, e ∈ o'.after → Region.binds .any e = true → (listed.setIfInBounds i true).getD e.on true = true := by
      intro j oj hoj hl e he hb
      rw [set_getD (by omega)] at hl ⊢
      rcases hl with rfl | hl
      · obtain rfl : o = oj := by rw [ho] at hoj; exact Option.some.inj hoj
        exact .inr (hpre1 e he hb)
      · exact .inr (hcl j oj hoj hl e he hb)
    obtain ⟨pre, post, u1, u2, u3⟩ := unl_split hsz hi hni
    have hun : ∀ k, k ∈ pre → k < ops.size ∧ (k, i) ∈ unord ops := by
      intro k hk
      obtain ⟨k1, k2⟩ := u3 k hk
      refine ⟨by omega, ?_⟩
      have hlen : (befo ops.toList []).length = ops.size := by rw [befo_length]; simp
      obtain ⟨m, hm⟩ : ∃ m, (befo ops.toList [])[i]? = some m := ⟨(befo ops.toList [])[i]'(by omega), by simp⟩
      refine unordF_mem.2 ⟨i, m, hm, by simp, by simp only [Nat.zero_add]; exact k1, ?_⟩
      cases hb : hasB m k with
      | false => rfl
      | true =>
        exfalso
        have := befo_spec (L := fun j => (listed.setIfInBounds i true).getD j true = true) (os := ops.toList) (acc := []) (fun j o' hj hl e he hbb => hcl' j o' (by simpa using hj) (by simpa using hl) e (by simpa using he) hbb)
          (fun j m hj => by simp at hj) i m hm ((set_getD (by omega)).2 (.inl rfl)) k hb
        rw [set_getD (by omega)] at this
        rcases this with rfl | this
        · exact Nat.lt_irrefl _ k1
        · rw [k2] at this; cases this
    rw [u1] at hr
    obtain ⟨s1, hst1, hrest⟩ := bubble hrn hap hkk hkf hi hc hun hr
    obtain ⟨c1, -, -⟩ := hc.step hrn hst1
    have hafter : ∀ σ' a' w', Sim n σ' s1.1 s1.2 a' w' → Evo σ s.2 w σ' s1.2 w' → J (listed.setIfInBounds i true) a' w' := by
      intro σ' a' w' k1 k2
      exact ⟨by simpa using hsz, hcl', s1, σ', k1, he.trans k2, c1, by rw [u2]; exact hrest⟩
    obtain ⟨o', v, ho', q1, q2⟩ := hst1
    obtain rfl : o = o' := by rw [ho] at ho'; exact Option.some.inj ho'
    obtain ⟨p1, p2⟩ := stpV_ok hrn q1 (fun hh => hc.kept hh) hs
    have hde := (jd_ok q1).2.2.1
    rw [hde, ← q2] at p1 p2
    unfold wpOp
    simp only [ho]
    cases hw : Region.wanted o (yielded ops a.tmps) with
    | true =>
      simp only [if_true]
      refine .inl (Ab.OpRuns.wp (p1 hw) ?_)
      rintro rv w' ⟨σ', k1, k2⟩
      exact hafter σ' _ _ k1 k2
    | false =>
      simp only [Bool.false_eq_true, if_false]
      obtain ⟨k1, k2⟩ := p2 hw
      exact hafter σ _ _ k1 (by rw [k2]; exact .refl _ _ _)
  have hany : ∀ (fuel : Nat) (listed : Array Bool) (a : Act) (w : World), J listed a w → (unl ops listed).length ≤ fuel →
      wpAny C.P .any ops (fun e a' w' => e = .normal ∧ ∃ σ', Sim n σ' E' H' a' w' ∧ Evo σ0 H1 w0 σ' H' w') fuel listed a w := by
    intro fuel
    induction fuel with
    | zero =>
      intro listed a w hJ hc
      have hr : Region.ready .any ops listed = [] := by
        have h0 : unl ops listed = [] := List.length_eq_zero_iff.1 (by omega)
        apply List.filter_eq_nil_iff.2
        intro x hx
        have := (List.filter_eq_nil_iff.1 h0) x hx
        simp only [Bool.not_eq_true, Bool.not_eq_false'] at this
        simp [this]
      exact ⟨hr, rfl, hdone listed a w hJ hr⟩
    | succ fuel ih =>
      intro listed a w hJ hc
      refine ⟨fun hr => ⟨rfl, hdone listed a w hJ hr⟩, fun i hi => ?_⟩
      have hi' := hi
      simp only [Region.ready, List.mem_filter, List.mem_range, Bool.and_eq_true, Bool.not_eq_true'] at hi'
      obtain ⟨hlt, hni, _⟩ := hi'
      obtain ⟨pre, post, u1, u2, -⟩ := unl_split hJ.1 hlt hni
      refine wpOp_mono (fun a' w' hJ' => ih _ a' w' hJ' ?_) (hone listed a w i hJ hi)
      rw [u2]; rw [u1] at hc
      simp at hc ⊢; omega
  refine hany ops.size _ a0 w0 ⟨by simp, ?_, (E0, H1), σ0, hs0, .refl _ _ _, ⟨⟨σ0, a0, w0, hs0⟩, h1, h2, h3⟩, ?_⟩ ?_
  · intro j o ho hl
    have : j < ops.size := (Array.getElem?_eq_some_iff.1 ho).1
    simp [Array.getD, this] at hl
  · have : unl ops (Array.replicate ops.size false) = List.range ops.size := by
      apply List.filter_eq_self.2
      intro i hi
      have hi := List.mem_range.1 hi
      simp [Array.getD, hi]
    rw [this]; exact hrun0
  · exact Nat.le_trans (List.length_filter_le _ _) (by simp)

theorem Sim.drew {σ : Sg} {E : Env} {H : Hp} {a : Act} {w : World} (hs : Sim n σ E H a w) (d : Nat) : Sim n σ E H a { w with drawn := d } := ⟨hs.1, hs.2.1, hs.2.2.1.drew d, hs.2.2.2⟩

/-- A region whose order is drawn. -/
theorem drawn_ok (hC : COK C) (hrn : RnOK C.P rn) {id : Nat} (hok : okS ops = true) {E : Env} {H : Hp} (hg : (drawn C n rn ops E H).good = true) {σ : Sg} {a : Act} {w : World} (hs : Sim n σ E H a w) :
    (Code.region id ops true).wp C.P (Post n σ H w (drawn C n rn ops E H)) a w := by
  unfold drawn at hg ⊢
  -- the place that is kept
  have hkeep : ∀ {x : CV} {H1 : Hp}, (match rvOf ops with | some _ => H.new .res fun _ => CV.any | none => some (CV.any, H)) = some (x, H1) →
      WOK σ H1 { w with drawn := w.drawn + 1 } ∧ Evo σ H { w with drawn := w.drawn + 1 } σ H1 { w with drawn := w.drawn + 1 } ∧ H.n ≤ H1.n ∧ H1.fl ≤ H.n ∧ ((rvOf ops).isSome = true → H.n < H1.n) := by
    intro x H1 h
    have hw := hs.2.2.1.drew (w.drawn + 1)
    cases hr : rvOf ops with
    | none =>
      rw [hr] at h
      simp only [Option.some.injEq, Prod.mk.injEq] at h
      obtain ⟨-, rfl⟩ := h
      exact ⟨hw, .refl _ _ _, Nat.le_refl _, hw.fl, fun hc => by cases hc⟩
    | some r =>
      rw [hr] at h
      obtain ⟨q1, -, rfl⟩ := Hp.new_eq h
      obtain ⟨k1, k2⟩ := hw.keepPlace q1
      exact ⟨k1, k2, Nat.le_succ _, hw.fl, fun _ => Nat.lt_succ_self _⟩
  split at hg
  · rename_i x H1 h1
    obtain ⟨k1, k2, k3, k4, k5⟩ := hkeep h1
    split at hg
    · rename_i ks E' H' hst
      cases hkk : (loudP ops).all (okK (rvOf ops) H.n ks) with
      | false => rw [hkk] at hg; cases hg
      | true =>
        simp only [h1, hst, hkk, cond_true]
        have hs1 : Sim n σ E H1 a { w with drawn := w.drawn + 1 } := ⟨hs.1, hs.2.1, k1, hs.2.2.2⟩
        refine wp_mono (wp_region_any hC.mix (order_ok hrn hok hkk hst hs1 k3 k4 k5)) ?_
        rintro e a' w' ⟨rfl, σ', q1, q2⟩
        exact ⟨σ', E', H', ⟨rfl, rfl, rfl⟩, q1, (k2.trans q2).drew⟩
    · cases hg
  · cases hg

/- Regions that leave the heap as it is. -/
theorem calm_rv (hc : calm ops = true) : rvOf ops = none := by
  cases hr : rvOf ops with
  | none => rfl
  | some r =>
    exfalso
    have h := rvOf_alloc hr
    unfold opAt at h
    split at h
    · rename_i o ho
      rw [nth_eq] at ho
      have hm : o ∈ ops.toList := List.mem_of_getElem? ho
      have := (List.all_eq_true.1 hc) o hm
      obtain ⟨dst, op, ty, pos, after, guard⟩ := o
      cases op <;> first | (cases h; done) | (cases this; done)
    · cases h

theorem calm_step {o : Oper} (ho : calmO o.op = true) {E : Env} {H : Hp} {K : Env → Hp → Out} (hg : (stepJ C rn (compJ C.P n ops o) E H K).good = true) (i : Nat) (hrv : rvOf ops = none) :
    ∃ k E1, k.rd = true ∧ stp C rn n0 (jdOf C n ops i o) E H = some (k, E1, H) ∧ stepJ C rn (compJ C.P n ops o) E H K = K E1 H := by
  have hh : (jdOf C n ops i o).hid = false := by unfold jdOf; rw [hrv]; rfl
  have hv : (jdOf C n ops i o).rv = false := by unfold jdOf; rw [hrv]
  have hj : (jdOf C n ops i o).j = compJ C.P n ops o := rfl
  have hbad : ∀ E H (K : Env → Hp → Out), (stepJ C rn ⟨none, .bad, none⟩ E H K).good = false := fun _ _ _ => rfl
  have hci : (compJ C.P n ops o).i = comp C.P o.op o.type := by
    unfold compJ at hg ⊢
    cases hd : dstOk n o.dst with
    | false => rw [hd] at hg; simp only [cond_false, hbad] at hg; cases hg
    | true =>
      rw [hd] at hg
      simp only [cond_true] at hg ⊢
      cases hgd : o.guard with
      | none => rfl
      | some p =>
        obtain ⟨j, wt⟩ := p
        simp only [hgd] at hg ⊢
        split at hg
        · rename_i t ht
          cases hlt : Nat.blt t 512 with
          | false => rw [hlt] at hg; simp only [cond_false, hbad] at hg; cases hg
          | true => simp only [ht, hlt, cond_true]
        · rw [hbad] at hg; cases hg
  have hncl : ∀ f xs, comp C.P o.op o.type ≠ .cl f xs := fun f xs hc => by
    obtain ⟨g, ys, ts, hop, -, -⟩ := comp_cl hc
    rw [hop] at ho; cases ho
  have hnnx : ∀ x s, comp C.P o.op o.type ≠ .nx x s := fun x s hc => by
    obtain ⟨y, hop, -⟩ := comp_nx hc
    rw [hop] at ho; cases ho
  unfold stepJ at hg ⊢
  cases hw : want E (compJ C.P n ops o).g with
  | true =>
    rw [hw] at hg
    simp only [cond_true] at hg ⊢
    have hdo : doJ C rn (compJ C.P n ops o) E H K = next1 (exec C.P (comp C.P o.op o.type) E H none) (compJ C.P n ops o).d E K := by
      unfold doJ
      split
      · rename_i x s hx; rw [hci] at hx; exact absurd hx (hnnx x s)
      · rename_i f xs hx; rw [hci] at hx; exact absurd hx (hncl f xs)
      · rw [hci]
    rw [hdo] at hg ⊢
    cases hx : exec C.P (comp C.P o.op o.type) E H none with
    | none => rw [hx] at hg; cases hg
    | some r =>
      obtain ⟨v, H3⟩ := r
      have hk : (kindI E (comp C.P o.op o.type) (jdOf C n ops i o).pair).rd = true := calm_kind ho hx
      obtain ⟨rfl, -⟩ := rd_exec (H2 := H) (wq2 := none) hk hx
      refine ⟨_, putE E (compJ C.P n ops o).d v, hk, ?_, rfl⟩
      have hH : ∀ kk, stpH C rn n0 (jdOf C n ops i o) kk E H3 = some (v, H3) := fun kk => by
        unfold stpH
        split
        · rename_i f xs hf; rw [hj, hci] at hf; exact absurd hf (hncl f xs)
        · rw [hj, hci, hv]; exact hx
      unfold stp
      rw [stpV_of (k := kindI E (comp C.P o.op o.type) (jdOf C n ops i o).pair) (v := v) (H' := H3) (by rw [hj]; exact hw) (by rw [hj, hci]) (by simp only [stpW, hh, cond_false, hH])]
      simp only [hj]
  | false =>
    rw [hw] at hg
    simp only [cond_false] at hg ⊢
    cases hy : yes E (compJ C.P n ops o).g with
    | false => rw [hy] at hg; cases hg
    | true =>
      refine ⟨.n, putE E (compJ C.P n ops o).d (.v undef), rfl, ?_, rfl⟩
      unfold stp stpV
      rw [hj, hw, hy]
      rfl

theorem calm_stps (hc : calm ops = true) : ∀ {m k0 : Nat} {E : Env} {H : Hp}, k0 + m = ops.size → (regL ((ops.toList.drop k0).map fun o => compK C rn (compJ C.P n ops o)) E H).good = true →
    ∃ ks E', stps C rn n0 ((List.range' k0 m).map fun i => match nth ops.toList i with
      | some o => ⟨compJ C.P n ops o, inP (loudP ops) i, hidS ops (rvOf ops) i, (match rvOf ops with | some r => Nat.beq r i | none => false)⟩
      | none => ⟨⟨none, .bad, none⟩, false, false, false⟩) E H = some (ks, E', H) ∧ regL ((ops.toList.drop k0).map fun o => compK C rn (compJ C.P n ops o)) E H = .n E' H ∧ ks.length = m ∧ ∀ k, k ∈ ks → k.rd = true
  | 0, k0, E, H, hm, hg => by
    have : ops.toList.drop k0 = [] := List.drop_eq_nil_of_le (by simp; omega)
    rw [this]
    exact ⟨[], E, rfl, rfl, rfl, by simp⟩
  | m + 1, k0, E, H, hm, hg => by
    have hlt : k0 < ops.size := by omega
    have hk : nth ops.toList k0 = some ops[k0] := by rw [nth_eq, Array.getElem?_toList]; simp
    have hd : ops.toList.drop k0 = ops[k0] :: ops.toList.drop (k0 + 1) := by
      rw [List.drop_eq_getElem_cons (by simpa using hlt)]; simp
    rw [hd, List.map_cons, regL_cons, compK_eq] at hg ⊢
    obtain ⟨k, E1, h1, h2, h3⟩ := calm_step (n0 := n0) ((List.all_eq_true.1 hc) ops[k0] (by simp)) hg k0 (calm_rv hc)
    rw [h3] at hg ⊢
    obtain ⟨ks, E', e1, e2, e3, e4⟩ := calm_stps hc (m := m) (k0 := k0 + 1) (by omega) hg
    refine ⟨k :: ks, E', ?_, e2, by simp [e3], fun q hq => ?_⟩
    · rw [List.range'_succ, List.map_cons, stps]
      simp only [hk]
      rw [show stp C rn n0 ⟨compJ C.P n ops ops[k0], inP (loudP ops) k0, hidS ops (rvOf ops) k0, (match rvOf ops with | some r => Nat.beq r k0 | none => false)⟩ E H = some (k, E1, H) from h2]
      simp only [e1]
    · rcases List.mem_cons.1 hq with rfl | hq
      · exact h1
      · exact e4 q hq

theorem calm_ok (hC : COK C) (hrn : RnOK C.P rn) {id : Nat} (hok : okS ops = true) (hc : calm ops = true) {E : Env} {H : Hp} (hg : (rgC (regK C n rn ops) E H).good = true) {σ : Sg} {a : Act} {w : World} (hs : Sim n σ E H a w) :
    (Code.region id ops true).wp C.P (Post n σ H w (rgC (regK C n rn ops) E H)) a w := by
  unfold rgC regK at hg ⊢
  obtain ⟨ks, E', h1, h2, h3, h4⟩ := calm_stps (n0 := H.n) hc (m := ops.size) (k0 := 0) (by omega) (by rw [List.drop_zero]; exact hg)
  rw [List.drop_zero] at h2
  rw [h2]
  have hst : stps C rn H.n (compD C n ops) E H = some (ks, E', H) := by
    unfold compD
    rw [List.range_eq_range']
    exact h1
  have hrv := calm_rv hc
  have hkk : (loudP ops).all (okK (rvOf ops) H.n ks) = true := by
    rw [List.all_eq_true]
    rintro ⟨x, y⟩ hp
    have hu := (List.mem_filter.1 hp).1
    have hlt := unord_lt hu
    obtain ⟨c, m, hm, hy, -, -⟩ := unordF_mem.1 hu
    have hlen : (befo ops.toList []).length = ops.size := by rw [befo_length]; simp
    have hcl := (List.getElem?_eq_some_iff.1 hm).1
    simp only at hlt hy
    obtain ⟨kx, hx⟩ : ∃ k, ks[x]? = some k := ⟨ks[x]'(by omega), by simp⟩
    obtain ⟨ky, hy2⟩ : ∃ k, ks[y]? = some k := ⟨ks[y]'(by omega), by simp⟩
    have r1 := h4 kx (List.mem_of_getElem? hx)
    have r2 := h4 ky (List.mem_of_getElem? hy2)
    unfold okK
    rw [hrv]
    simp only [nth_eq, hx, hy2]
    cases kx <;> first | (cases r1; done) | (cases ky <;> first | rfl | (cases r2; done))
  have hw := hs.2.2.1
  refine wp_mono (wp_region_any hC.mix (order_ok (n0 := H.n) hrn hok hkk hst (hs.drew (w.drawn + 1)) (Nat.le_refl _) hw.fl (fun hc => by rw [hrv] at hc; cases hc))) ?_
  rintro e a' w' ⟨rfl, σ', q1, q2⟩
  exact ⟨σ', E', H, ⟨rfl, rfl, rfl⟩, q1, q2.drew⟩
end

theorem run_ok {C : Cx} (hC : COK C) {rn : Rn} (hrn : RnOK C.P rn) : CodeOK C.P (run C rn) := by
  intro n c E H hg σ a w hs
  refine code_ok hrn n (fun id ops E H hok hg σ a w hs => ?_) c E H hg σ a w hs
  cases hc : calm ops with
  | true => rw [hc] at hg; exact calm_ok hC hrn hok hc hg hs
  | false => rw [hc] at hg; exact drawn_ok hC hrn hok hg hs

/-- Every call that is read. -/
theorem call_ok {C : Cx} (hC : COK C) (hT : TabOK C.P C.kt) : ∀ m, RnOK C.P (call C m)
  | 0 => fun f xs H v H' h => by cases h
  | m + 1 => callF_ok (run := run C (call C m)) hC hT (run_ok hC (call_ok hC hT m))
end Go.Proofs.YtindppnanjcoaaaGreatDoor.Ev
end
section
namespace Go.Proofs.YtindppnanjcoaaaGreatDoor.Ev
open Go
set_option maxRecDepth 1000000

noncomputable def C0 : Cx := { P := Tryz.prog, oc := [141, 142], qf := [139], ov := [191, 193], ks := [50, 51, 29], kt := [] }
def tab : List (Nat × List CV × List (List CV) × CV) := [
  (29, [.a [.i .i64 4, .sl 0 0 1 1, .v (.string ⟨#[103, 111, 101, 116, 104, 101, 47, 47, 47]⟩), .v (.slice none 0 0), .v (.slice none 0 0), .v (.slice none 0 0), .v (.slice none 0 0), .v (.slice none 0 0)]], [[.v (.string ⟨#[102, 97, 117, 115, 116]⟩)]], .b true),
  (29, [.a [.i .i64 7, .sl 0 0 1 1, .v (.string ⟨#[103, 111, 101, 116, 104, 101, 47, 47, 47]⟩), .v (.slice none 0 0), .v (.slice none 0 0), .v (.slice none 0 0), .v (.slice none 0 0), .v (.slice none 0 0)]], [[.v (.string ⟨#[102, 97, 117, 115, 116]⟩)]], .b true),
  (50, [.a [.i .i64 4, .sl 0 0 1 1, .v (.string ⟨#[103, 111, 101, 116, 104, 101, 47, 47, 47]⟩), .v (.slice none 0 0), .v (.slice none 0 0), .v (.slice none 0 0), .v (.slice none 0 0), .v (.slice none 0 0)], .a [.i .i64 7, .sl 1 0 1 1, .v (.string ⟨#[103, 111, 101, 116, 104, 101, 47, 47, 47]⟩), .v (.slice none 0 0), .v (.slice none 0 0), .v (.slice none 0 0), .v (.slice none 0 0), .v (.slice none 0 0)]], [[.v (.string ⟨#[102, 97, 117, 115, 116]⟩)], [.v (.string ⟨#[102, 97, 117, 115, 116]⟩)]], .t [.a [.i .i64 1, .i .i64 1, .i .i64 0, .i .i64 0, .i .i64 0, .i .i64 0, .i .i64 0], .i .i64 0]),
  (50, [.a [.i .i64 7, .sl 0 0 1 1, .v (.string ⟨#[103, 111, 101, 116, 104, 101, 47, 47, 47]⟩), .v (.slice none 0 0), .v (.slice none 0 0), .v (.slice none 0 0), .v (.slice none 0 0), .v (.slice none 0 0)], .a [.i .i64 4, .sl 1 0 1 1, .v (.string ⟨#[103, 111, 101, 116, 104, 101, 47, 47, 47]⟩), .v (.slice none 0 0), .v (.slice none 0 0), .v (.slice none 0 0), .v (.slice none 0 0), .v (.slice none 0 0)]], [[.v (.string ⟨#[102, 97, 117, 115, 116]⟩)], [.v (.string ⟨#[102, 97, 117, 115, 116]⟩)]], .t [.a [.i .i64 1, .i .i64 1, .i .i64 0, .i .i64 0, .i .i64 0, .i .i64 0, .i .i64 0], .i .i64 0]),
  (51, [.a [.i .i64 20, .i .i64 1, .i .i64 6, .i .i64 1, .i .i64 1, .i .i64 12, .i .i64 12, .i .i64 1, .i .i64 4, .i .i64 1, .i .i64 1, .i .i64 20, .i .i64 2, .i .i64 1, .i .i64 3, .i .i64 2, .i .i64 4, .i .i64 5, .i .i64 100, .i .i64 1, .i .i64 1, .i .i64 1, .i .i64 3, .i .i64 4, .i .i64 3, .i .i64 2, .i .i64 1, .i .i64 1, .i .i64 1, .i .i64 2, .i .i64 6, .i .i64 5, .i .i64 1, .i .i64 1, .i .i64 9, .i .i64 10, .i .i64 1, .i .i64 1, .i .i64 1, .i .i64 1, .i .i64 1, .i .i64 1], .a [.i .i64 1, .i .i64 1, .i .i64 0, .i .i64 0, .i .i64 0, .i .i64 0, .i .i64 0]], [], .t [.i .i64 63, .i .i64 0]),
  (51, [.a [.i .i64 8, .i .i64 1, .i .i64 3, .i .i64 1, .i .i64 1, .i .i64 16, .i .i64 4, .i .i64 1, .i .i64 2, .i .i64 1, .i .i64 1, .i .i64 16, .i .i64 6, .i .i64 1, .i .i64 1, .i .i64 4, .i .i64 1, .i .i64 20, .i .i64 400, .i .i64 1, .i .i64 1, .i .i64 1, .i .i64 1, .i .i64 8, .i .i64 2, .i .i64 1, .i .i64 1, .i .i64 1, .i .i64 1, .i .i64 100, .i .i64 3, .i .i64 1, .i .i64 3, .i .i64 2, .i .i64 1, .i .i64 6, .i .i64 5, .i .i64 1, .i .i64 1, .i .i64 1, .i .i64 1, .i .i64 30], .a [.i .i64 1, .i .i64 1, .i .i64 0, .i .i64 0, .i .i64 0, .i .i64 0, .i .i64 0]], [], .t [.i .i64 40, .i .i64 0])]
/-- Joining two lines. -/
def jrow : List CV := [.v (.string ⟨#[116, 105, 116, 108, 101, 32, 97, 103, 114, 101, 101, 115, 32, 50, 48, 47, 49]⟩), .v (.string ⟨#[97, 117, 116, 104, 111, 114, 32, 97, 103, 114, 101, 101, 115, 32, 49, 50, 47, 49]⟩)]
def jval : CV := .v (.string ⟨#[116, 105, 116, 108, 101, 32, 97, 103, 114, 101, 101, 115, 32, 50, 48, 47, 49, 44, 32, 97, 117, 116, 104, 111, 114, 32, 97, 103, 114, 101, 101, 115, 32, 49, 50, 47, 49]⟩)
def jent : Nat × List CV × List (List CV) × CV := (14, [.so 0 0 2 1, .v (.string ⟨#[44, 32]⟩)], [jrow], jval)

noncomputable def C1 : Cx := { P := Tryz.prog, oc := [141, 142], qf := [139], ov := [191, 193], ks := [50, 51, 29, 14], kt := jent :: tab }
/-- A known call is as it is said to be. -/
noncomputable def ent (e : Nat × List CV × List (List CV) × CV) : Bool :=
  scalar e.2.2.2 && Nat.ble e.2.2.1.length 4096 && match callW C0 (run C0 (call C0 60)) e.1 e.2.1 ⟨(e.2.2.1.foldl (fun (K : Hp) l => ⟨(setF AO 4 K.n).s (.k l) K.h, K.n + 1, K.fl⟩) noHp).h, (e.2.2.1.foldl (fun (K : Hp) l => ⟨(setF AO 4 K.n).s (.k l) K.h, K.n + 1, K.fl⟩) noHp).n, (e.2.2.1.foldl (fun (K : Hp) l => ⟨(setF AO 4 K.n).s (.k l) K.h, K.n + 1, K.fl⟩) noHp).n⟩ with
  | some (v, _) => same v e.2.2.2
  | none => false
end Go.Proofs.YtindppnanjcoaaaGreatDoor.Ev
end
