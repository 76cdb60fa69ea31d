/- What a function comes to over a small heap, it comes to over any heap that has these entries; and functions whose results lie in the heap. Calls over a heap, and lists whose first element comes by 'append'. Lists in the cells of rows: they begin empty, to be written in place; they are given up to be data. Conditions: none. -/
import Derived.Test.YtlbiooppadlolaaGreatDoorAb18
section
namespace Go.Proofs.YtlbiooppadlolaaGreatDoor.Ab
open Go

def V.rn1 (p : Nat → Nat) : V → V
  | .ptr i o => .ptr (p i) o
  | .tk i l => .tk (p i) l
  | .hs i o n s => .hs (p i) o n s
  | .mp i => .mp (p i)
  | v => v
def V.rn (p : Nat → Nat) : V → V
  | .fn f l => .fn f (l.map (V.rn1 p))
  | .agg l => .agg (l.map (V.rn1 p))
  | .tup l => .tup (l.map (V.rn1 p))
  | v => v.rn1 p
def V.flat1 : V → Bool
  | .fn _ _ | .agg _ | .tup _ | .when _ _ => false
  | _ => true
def V.simple : V → Bool
  | .fn _ l | .agg l | .tup l => l.all V.flat1
  | .when _ _ => false
  | _ => true
def HE.rn (p : Nat → Nat) : HE → HE
  | .row c => .row (c.map (V.rn p))
  | e => e
def HE.simple : HE → Bool
  | .row c => c.all V.simple
  | .ob x => x.fr
  | _ => true

theorem rn1_rep {p : Nat → Nat} {g g' : G} {w : World} (hσ : ∀ i, g'.σ (p i) = g.σ i) (hτ : ∀ i, g'.τ (p i) = g.τ i) (hP : g'.Pr = g.Pr) {v : V} {r : Value} (hs : v.flat1 = true) : Rep g w v r ↔ Rep g' w (v.rn1 p) r := by
  cases v <;> simp only [V.flat1, Bool.false_eq_true] at hs <;> simp only [V.rn1]
  case d => exact ⟨fun h => by cases h with | d h => exact .d (hP ▸ h), fun h => by cases h with | d h => exact .d (hP ▸ h)⟩
  case hs => exact ⟨fun h => by cases h with | hs h1 h2 => exact .hs ((hτ _).trans h1) h2, fun h => by cases h with | hs h1 h2 => exact .hs ((hτ _).symm.trans h1) h2⟩
  case ptr => exact ⟨fun h => by cases h with | ptr h1 => exact .ptr ((hσ _).trans h1), fun h => by cases h with | ptr h1 => exact .ptr ((hσ _).symm.trans h1)⟩
  case mp => exact ⟨fun h => by cases h with | mp h1 => exact .mp ((hσ _).trans h1), fun h => by cases h with | mp h1 => exact .mp ((hσ _).symm.trans h1)⟩
  case vp => exact ⟨fun h => by cases h with | vp h1 h2 => exact .vp (by rw [hP]; exact h1) (by rw [hP]; exact h2), fun h => by cases h with | vp h1 h2 => exact .vp (by rw [← hP]; exact h1) (by rw [← hP]; exact h2)⟩
  case tk => exact ⟨fun h => by cases h with | tk h1 h2 h3 h4 => exact .tk (hP ▸ h1) ((hτ _).trans h2) h3 h4, fun h => by cases h with | tk h1 h2 h3 h4 => exact .tk (hP ▸ h1) ((hτ _).symm.trans h2) h3 h4⟩
  case ex => exact ⟨fun h => by cases h with | ex h => exact .ex (hP ▸ h), fun h => by cases h with | ex h => exact .ex (hP ▸ h)⟩
  case nil => exact ⟨fun h => by cases h; exact .nil, fun h => by cases h; exact .nil⟩
  case any => exact ⟨fun _ => .any, fun _ => .any⟩

theorem rn_rep {p : Nat → Nat} {g g' : G} {w : World} (hσ : ∀ i, g'.σ (p i) = g.σ i) (hτ : ∀ i, g'.τ (p i) = g.τ i) (hP : g'.Pr = g.Pr) {v : V} {r : Value} (hs : v.simple = true) : Rep g w v r ↔ Rep g' w (v.rn p) r := by
  have sub : ∀ (l : List V), l.all V.flat1 = true → ∀ (i : Nat) x, (l.map (V.rn1 p))[i]? = some x → ∃ y, l[i]? = some y ∧ x = y.rn1 p ∧ y.flat1 = true := by
    intro l hl i x hx
    simp only [List.getElem?_map, Option.map_eq_some_iff] at hx
    obtain ⟨y, hy, rfl⟩ := hx
    exact ⟨y, hy, rfl, List.all_eq_true.1 hl y (List.mem_of_getElem? hy)⟩
  cases v with
  | fn f l =>
    simp only [V.simple] at hs
    simp only [V.rn]
    constructor
    · intro h
      cases h with
      | fn h1 h2 =>
        refine .fn (by simpa using h1) (fun i x v hx hv => ?_)
        obtain ⟨y, hy, rfl, hf⟩ := sub l hs i x hx
        exact (rn1_rep hσ hτ hP hf).1 (h2 i y v hy hv)
    · intro h
      cases h with
      | fn h1 h2 =>
        refine .fn (by simpa using h1) (fun i x v hx hv => ?_)
        exact (rn1_rep hσ hτ hP (List.all_eq_true.1 hs x (List.mem_of_getElem? hx))).2 (h2 i _ v (by simp [hx]) hv)
  | agg l =>
    simp only [V.simple] at hs
    simp only [V.rn]
    constructor
    · intro h
      cases h with
      | agg h1 h2 =>
        refine .agg (by simpa using h1) (fun i x v hx hv => ?_)
        obtain ⟨y, hy, rfl, hf⟩ := sub l hs i x hx
        exact (rn1_rep hσ hτ hP hf).1 (h2 i y v hy hv)
    · intro h
      cases h with
      | agg h1 h2 =>
        refine .agg (by simpa using h1) (fun i x v hx hv => ?_)
        exact (rn1_rep hσ hτ hP (List.all_eq_true.1 hs x (List.mem_of_getElem? hx))).2 (h2 i _ v (by simp [hx]) hv)
  | tup l =>
    simp only [V.simple] at hs
    simp only [V.rn]
    constructor
    · intro h
      cases h with
      | tup h1 h2 =>
        refine .tup (by simpa using h1) (fun i x v hx hv => ?_)
        obtain ⟨y, hy, rfl, hf⟩ := sub l hs i x hx
        exact (rn1_rep hσ hτ hP hf).1 (h2 i y v hy hv)
    · intro h
      cases h with
      | tup h1 h2 =>
        refine .tup (by simpa using h1) (fun i x v hx hv => ?_)
        exact (rn1_rep hσ hτ hP (List.all_eq_true.1 hs x (List.mem_of_getElem? hx))).2 (h2 i _ v (by simp [hx]) hv)
  | «when» => simp [V.simple] at hs
  | d => exact rn1_rep hσ hτ hP rfl
  | hs => exact rn1_rep hσ hτ hP rfl
  | ptr => exact rn1_rep hσ hτ hP rfl
  | mp => exact rn1_rep hσ hτ hP rfl
  | vp => exact rn1_rep hσ hτ hP rfl
  | tk => exact rn1_rep hσ hτ hP rfl
  | ex => exact rn1_rep hσ hτ hP rfl
  | nil => exact rn1_rep hσ hτ hP rfl
  | any => exact rn1_rep hσ hτ hP rfl

/-- Local numbers and those of the greater heap: the first k are ids, the others come behind its end. -/
def glob (ids : List Nat) (N : Nat) (i : Nat) : Nat := match ids[i]? with
  | some j => j
  | none => N + (i - ids.length)
def locI : List Nat → Nat → Nat → Option Nat
  | [], _, _ => none
  | a :: r, k, j => cond (Nat.beq j a) (some k) (locI r (k + 1) j)
def loc (ids : List Nat) (N : Nat) (j : Nat) : Option Nat := match locI ids 0 j with
  | some i => some i
  | none => if N ≤ j then some (j - N + ids.length) else none
theorem locI_some : ∀ {ids : List Nat} {k j i : Nat}, locI ids k j = some i → k ≤ i ∧ ids[i - k]? = some j
  | a :: r, k, j, i, h => by
    simp only [locI] at h
    cases hb : Nat.beq j a with
    | true =>
      rw [hb] at h; simp at h; subst h
      simp [Nat.eq_of_beq_eq_true hb]
    | false =>
      rw [hb] at h
      obtain ⟨h1, h2⟩ := locI_some (ids := r) (k := k + 1) h
      refine ⟨by omega, ?_⟩
      rw [show i - k = (i - (k + 1)) + 1 by omega]
      simpa using h2
theorem locI_none : ∀ {ids : List Nat} {k j : Nat}, locI ids k j = none → j ∉ ids
  | [], _, _, _ => by simp
  | a :: r, k, j, h => by
    simp only [locI] at h
    cases hb : Nat.beq j a with
    | true => rw [hb] at h; simp at h
    | false =>
      rw [hb] at h
      have h1 := locI_none (ids := r) (k := k + 1) h
      have : j ≠ a := fun e => by subst e; simp at hb
      simp [this, h1]
theorem loc_some {ids : List Nat} {N j i : Nat} (_hN : ∀ x ∈ ids, x < N) (h : loc ids N j = some i) : glob ids N i = j := by
  unfold loc at h
  split at h
  · rename_i i' h1
    injection h with h; subst h
    obtain ⟨_, h2⟩ := locI_some h1
    simp only [Nat.sub_zero] at h2
    simp [glob, h2]
  · split at h
    · injection h with h; subst h
      have : ids[j - N + ids.length]? = none := List.getElem?_eq_none (by omega)
      simp only [glob, this]; omega
    · cases h
theorem loc_none {ids : List Nat} {N j : Nat} (h : loc ids N j = none) : j ∉ ids ∧ j < N := by
  unfold loc at h
  split at h
  · cases h
  · rename_i h1
    split at h
    · cases h
    · exact ⟨locI_none h1, by omega⟩
theorem loc_glob {ids : List Nat} {N i : Nat} (hd : distinct ids = true) (hN : ∀ x ∈ ids, x < N) : loc ids N (glob ids N i) = some i := by
  have hno : ∀ j, N ≤ j → j ∉ ids := fun j hj hm => by have := hN j hm; omega
  by_cases hi : i < ids.length
  · have hg : glob ids N i = ids[i] := by simp [glob, hi]
    rw [hg]
    have hmem : ids[i] ∈ ids := List.getElem_mem hi
    unfold loc
    split
    · rename_i i' h1
      obtain ⟨_, h2⟩ := locI_some h1
      simp only [Nat.sub_zero] at h2
      rw [distinct_inj hd h2 (List.getElem?_eq_getElem hi)]
    · rename_i h1
      exact absurd hmem (locI_none h1)
  · have hg : glob ids N i = N + (i - ids.length) := by
      have : ids[i]? = none := List.getElem?_eq_none (by omega)
      simp [glob, this]
    rw [hg]
    unfold loc
    split
    · rename_i i' h1
      obtain ⟨_, h2⟩ := locI_some h1
      exact absurd (List.mem_of_getElem? h2) (hno _ (by omega))
    · rw [if_pos (by omega)]; congr 1; omega

/-- The greater heap behind the call. -/
def setAll (H : List HE) : List Nat → List HE → List HE
  | id :: ids, e :: es => setAll (H.set id e) ids es
  | _, _ => H
def mergeH (H : List HE) (ids : List Nat) (H0 : List HE) : List HE :=
  setAll H ids ((H0.take ids.length).map (HE.rn (glob ids H.length))) ++ (H0.drop ids.length).map (HE.rn (glob ids H.length))
theorem setAll_length : ∀ (ids : List Nat) (es H : List HE), (setAll H ids es).length = H.length
  | [], _, _ => by simp [setAll]
  | id :: ids, [], H => by simp [setAll]
  | id :: ids, e :: es, H => by rw [setAll, setAll_length]; simp
theorem setAll_other : ∀ (ids : List Nat) (es H : List HE) (j : Nat), j ∉ ids → (setAll H ids es)[j]? = H[j]?
  | [], _, _, _, _ => by simp [setAll]
  | id :: ids, [], H, j, _ => by simp [setAll]
  | id :: ids, e :: es, H, j, h => by
    simp only [List.mem_cons, not_or] at h
    rw [setAll, setAll_other ids es _ j h.2, List.getElem?_set_ne (Ne.symm h.1)]
theorem setAll_at : ∀ (ids : List Nat) (es H : List HE) (i j : Nat), distinct ids = true → es.length = ids.length → ids[i]? = some j → j < H.length → (setAll H ids es)[j]? = es[i]?
  | [], _, _, i, _, _, _, h, _ => by simp at h
  | id :: ids, [], H, i, _, _, hl, _, _ => by simp at hl
  | id :: ids, e :: es, H, 0, j, hd, hl, h, hj => by
    simp at h; subst h
    simp only [distinct, Bool.and_eq_true, Bool.not_eq_true'] at hd
    have hno : id ∉ ids := fun hm => by have := (inB_mem (l := ids)).2 hm; rw [this] at hd; simp at hd
    rw [setAll, setAll_other ids es _ id hno, List.getElem?_set_self hj]; rfl
  | id :: ids, e :: es, H, i + 1, j, hd, hl, h, hj => by
    simp only [distinct, Bool.and_eq_true] at hd
    rw [setAll, setAll_at ids es _ i j hd.2 (by simpa using hl) (by simpa using h) (by simpa using hj)]; simp

theorem mergeH_get {H : List HE} {ids : List Nat} {H0 : List HE} (hd : distinct ids = true) (hN : ∀ x ∈ ids, x < H.length) (hk : ids.length ≤ H0.length) (j : Nat) :
    (mergeH H ids H0)[j]? = match loc ids H.length j with | some i => (H0[i]?).map (HE.rn (glob ids H.length)) | none => H[j]? := by
  have hlen : (setAll H ids ((H0.take ids.length).map (HE.rn (glob ids H.length)))).length = H.length := setAll_length _ _ _
  unfold mergeH
  by_cases hj : j < H.length
  · rw [List.getElem?_append_left (by omega)]
    cases hl : loc ids H.length j with
    | none =>
      exact setAll_other _ _ _ j (loc_none hl).1
    | some i =>
      have hg := loc_some hN hl
      have hi : i < ids.length := by
        rcases Nat.lt_or_ge i ids.length with h | h
        · exact h
        · have : ids[i]? = none := List.getElem?_eq_none h
          simp only [glob, this] at hg; omega
      have hij : ids[i]? = some j := by
        have : ids[i]? = some ids[i] := List.getElem?_eq_getElem hi
        simp only [glob, this] at hg
        rw [this, hg]
      rw [setAll_at _ _ _ i j hd (by simp; omega) hij hj, List.getElem?_map, List.getElem?_take, if_pos hi]
  · rw [List.getElem?_append_right (by omega), hlen, List.getElem?_map, List.getElem?_drop]
    have hl : loc ids H.length j = some (j - H.length + ids.length) := by
      unfold loc
      split
      · rename_i i' h1
        obtain ⟨_, h2⟩ := locI_some h1
        have := hN j (List.mem_of_getElem? h2); omega
      · rw [if_pos (by omega)]
    rw [hl]
    simp only [Nat.add_comm]

theorem ACall.frame {P : Program} {f : FuncId} {args0 : List V} {H0 H : List HE} {R0 : V → List HE → Prop} (ids : List Nat) (h : ACall P f args0 H0 R0) (hk : ids.length = H0.length) (hd : distinct ids = true)
    (hin : ∀ (i : Nat) e, H0[i]? = some e → ∃ id, ids[i]? = some id ∧ H[id]? = some (e.rn (glob ids H.length))) (hs0 : H0.all HE.simple = true) (ha0 : args0.all V.simple = true)
    (hR : ∀ r H', R0 r H' → r.simple = true ∧ H'.all HE.simple = true ∧ ids.length ≤ H'.length) :
    ACall P f (args0.map (V.rn (glob ids H.length))) H fun r H' => ∃ r0 H0', R0 r0 H0' ∧ r = r0.rn (glob ids H.length) ∧ H' = mergeH H ids H0' := by
  intro g w vals hw hs hv
  have hN : ∀ x ∈ ids, x < H.length := by
    intro x hx
    obtain ⟨i, hi, rfl⟩ := List.mem_iff_getElem.1 hx
    obtain ⟨id, h1, h2⟩ := hin i _ (List.getElem?_eq_getElem (by omega))
    rw [List.getElem?_eq_getElem hi] at h1; injection h1 with h1
    rw [h1]; exact (List.getElem?_eq_some_iff.1 h2).1
  have hgl : ∀ i, loc ids H.length (glob ids H.length i) = some i := fun i => loc_glob hd hN
  have hge : ∀ i, ids.length ≤ i → H.length ≤ glob ids H.length i := fun i hi => by
    have : ids[i]? = none := List.getElem?_eq_none hi
    simp [glob, this]
  have hlt : ∀ i, i < ids.length → ids[i]? = some (glob ids H.length i) := fun i hi => by
    have : ids[i]? = some ids[i] := List.getElem?_eq_getElem hi
    simp [glob, this]
  let p := glob ids H.length
  let g0 : G := { σ := fun i => g.σ (p i), τ := fun i => g.τ (p i), υ := fun i => g.υ (p i), X := fun b => ∃ (i : Nat) (e : HE), H0[i]? = some e ∧ g.blk (p i) (e.rn p) b, Pr := g.Pr }
  have hH : ∀ (i : Nat) e, H0[i]? = some e → i < ids.length ∧ H[p i]? = some (e.rn p) := by
    intro i e he
    have hi : i < ids.length := by rw [hk]; exact (List.getElem?_eq_some_iff.1 he).1
    obtain ⟨id, h1, h2⟩ := hin i e he
    rw [hlt i hi] at h1; injection h1 with h1
    subst h1
    exact ⟨hi, h2⟩
  have hblk : ∀ (i : Nat) e b, g0.blk i e b → g.blk (p i) (e.rn p) b := by
    intro i e b hb
    cases e <;> exact hb
  have hinj : ∀ i i', p i = p i' → i = i' := fun i i' h => by
    have h1 := hgl i
    have h2 := hgl i'
    rw [show glob ids H.length i = glob ids H.length i' from h] at h1
    rw [h1] at h2; injection h2
  have hx0 : ∀ b, g0.X b → g.X b := by
    rintro b ⟨i, e, h1, h2⟩
    exact hw.blk _ _ b (hH i e h1).2 h2
  have hsim : ∀ (i : Nat) c, H0[i]? = some (.row c) → c.all V.simple = true := fun i c hc => List.all_eq_true.1 hs0 _ (List.mem_of_getElem? hc)
  have hrepIn : ∀ {v : V} {r : Value}, v.simple = true → Rep g w (v.rn p) r → Rep g0 w v r := fun hv hr => (rn_rep (g := g0) (g' := g) (p := p) (fun _ => rfl) (fun _ => rfl) rfl hv).2 hr
  have hw0 : WOK g0 w H0 := by
    refine ⟨hw.pr, fun b hb => hw.xs b (hx0 b hb), ?_, ?_, ?_, ?_, ?_, ?_, ?_, fun x hx => ⟨fun h => (hw.kc x hx).1 (hx0 _ h), (hw.kc x hx).2⟩⟩
    · intro i e b he hb
      exact ⟨i, e, he, hblk i e b hb⟩
    · intro i i' e e' b he he' hb hb'
      exact hinj _ _ (hw.sep _ _ _ _ b (hH i e he).2 (hH i' e' he').2 (hblk i e b hb) (hblk i' e' b hb'))
    · intro i c hc
      obtain ⟨b, arr, et, k1, k2, k3, k4, k5⟩ := hw.row _ _ (hH i _ hc).2
      refine ⟨b, arr, et, k1, k2, by simpa using k3, fun k x v hx hv => ?_, k5⟩
      exact hrepIn (List.all_eq_true.1 (hsim i c hc) x (List.mem_of_getElem? hx)) (k4 k _ v (by simp [hx]) hv)
    · intro i n e s hc
      exact hw.tok _ n e s (hH i _ hc).2
    · intro i l e s hc
      exact hw.lst _ l e s (hH i _ hc).2
    · intro i x hc
      obtain ⟨b, q1, q2, q3, q4⟩ := hw.ob _ x (hH i _ hc).2
      have hfr : x.fr = true := List.all_eq_true.1 hs0 _ (List.mem_of_getElem? hc)
      exact ⟨b, q1, x.fre hfr (g := g) (g' := g0) rfl rfl rfl q2, q3, q4⟩
    · intro i hi
      refine hw.free _ ?_
      rcases hi with hi | hi
      · exact .inl (hH i _ hi).2
      · exact .inr (hge i (by omega))
  have hrepArgs : ∀ (i : Nat) x v, args0[i]? = some x → vals[i]? = some v → Rep g0 w x v := fun i x v hx hv' =>
    hrepIn (List.all_eq_true.1 ha0 x (List.mem_of_getElem? hx)) (hv i _ v (by simp [hx]; rfl) hv')
  refine (h g0 w vals hw0 (by simpa using hs) hrepArgs).mono ?_
  rintro e w' ⟨rv, r, g', H', rfl, hw', he, hr, hRr⟩
  obtain ⟨hrs, hHs, hkl⟩ := hR r H' hRr
  let L := loc ids H.length
  let g2 : G := { σ := fun j => match L j with | some i => g'.σ i | none => g.σ j, τ := fun j => match L j with | some i => g'.τ i | none => g.τ j, υ := fun j => match L j with | some i => g'.υ i | none => g.υ j, X := fun b => g.X b ∨ g'.X b, Pr := g'.Pr }
  have hget := mergeH_get (H := H) (H0 := H') hd hN hkl
  have hX' : ∀ b, g'.X b → g0.X b ∨ w.heap.size ≤ b := he.x
  have keep : ∀ b, b < w.heap.size → ¬ g0.X b → w'.heap[b]? = w.heap[b]? := he.keep
  have hold : ∀ b o, g'.Pr b o → b < w.heap.size → ¬ g0.X b → g.Pr b o := by
    intro b o hp hb hx
    rcases he.prn b o hp with h1 | h1 | h1
    · exact h1
    · exact (hx h1).elim
    · omega
  have hσL : ∀ i, g2.σ (p i) = g'.σ i := fun i => by simp only [g2, L, p, hgl i]
  have hτL : ∀ i, g2.τ (p i) = g'.τ i := fun i => by simp only [g2, L, p, hgl i]
  have hout : ∀ {v : V} {r : Value}, v.simple = true → Rep g' w' v r → Rep g2 w' (v.rn p) r := fun hv hr => (rn_rep (g := g') (g' := g2) (p := p) hσL hτL rfl hv).1 hr
  have hev : Evo g w g2 w' := {
    same := he.same
    size := he.size
    pr := he.pr
    prn := fun b o hp => by
      rcases he.prn b o hp with h1 | h1 | h1
      · exact .inl h1
      · exact .inr (.inl (hx0 b h1))
      · exact .inr (.inr h1)
    x := fun b hb => by
      rcases hb with hb | hb
      · exact .inl hb
      · rcases hX' b hb with h1 | h1
        · exact .inl (hx0 b h1)
        · exact .inr h1
    keep := fun b hb hx => keep b hb (fun h0 => hx (hx0 b h0))
    σ := fun j b hb => by
      show (match L j with | some i => g'.σ i | none => g.σ j) = some b
      cases hl : L j with
      | none => exact hb
      | some i =>
        have hj : p i = j := loc_some hN hl
        exact he.σ i b (by show g.σ (p i) = some b; rw [hj]; exact hb)
    τ := fun j m a cap ht => by
      show ∃ m' a' cap', (match L j with | some i => g'.τ i | none => g.τ j) = some (m', a', cap') ∧ _
      cases hl : L j with
      | none => exact ⟨m, a, cap, ht, .inr ⟨rfl, rfl, rfl⟩⟩
      | some i =>
        have hj : p i = j := loc_some hN hl
        exact he.τ i m a cap (by show g.τ (p i) = _; rw [hj]; exact ht) }
  -- an entry of the heap: one of the call's, or one that was left alone
  have hent : ∀ (j : Nat) e, (mergeH H ids H')[j]? = some e → (∃ i e0, L j = some i ∧ p i = j ∧ H'[i]? = some e0 ∧ e = e0.rn p) ∨ (L j = none ∧ H[j]? = some e) := by
    intro j e hj
    rw [hget j] at hj
    cases hl : L j with
    | none => rw [show loc ids H.length j = none from hl] at hj; exact .inr ⟨rfl, hj⟩
    | some i =>
      rw [show loc ids H.length j = some i from hl] at hj
      simp only [Option.map_eq_some_iff] at hj
      obtain ⟨e0, h1, h2⟩ := hj
      exact .inl ⟨i, e0, rfl, loc_some hN hl, h1, h2.symm⟩
  have hblkIn : ∀ (j i : Nat) e0 b, L j = some i → g2.blk j (HE.rn p e0) b → g'.blk i e0 b := by
    intro j i e0 b hl hb
    cases e0 <;> simp only [HE.rn, G.blk, g2, hl] at hb ⊢ <;> exact hb
  have hblkOut : ∀ (j : Nat) e b, L j = none → g2.blk j e b → g.blk j e b := by
    intro j e b hl hb
    cases e <;> simp only [G.blk, g2, hl] at hb ⊢ <;> exact hb
  -- what was left alone lies elsewhere
  have hfar : ∀ (j : Nat) e b, L j = none → H[j]? = some e → g.blk j e b → b < w.heap.size ∧ ¬ g0.X b := by
    intro j e b hl he' hb
    refine ⟨hw.xs b (hw.blk j e b he' hb), ?_⟩
    rintro ⟨i, e0, h1, h2⟩
    obtain ⟨hi, h3⟩ := hH i e0 h1
    have := hw.sep _ _ _ _ b h3 he' h2 hb
    have h4 := hgl i
    rw [show glob ids H.length i = j from this] at h4
    rw [show loc ids H.length j = none from hl] at h4
    cases h4
  refine ⟨rv, r.rn p, g2, mergeH H ids H', rfl, ⟨hw'.pr, ?_, ?_, ?_, ?_, ?_, ?_, ?_, ?_, hw.kcE hev⟩, hev, hout hrs hr, r, H', hRr, rfl, rfl⟩
  · rintro b (hb | hb)
    · exact Nat.lt_of_lt_of_le (hw.xs b hb) he.size
    · exact hw'.xs b hb
  · intro j e b hj hb
    rcases hent j e hj with ⟨i, e0, hl, hp, h1, rfl⟩ | ⟨hl, h1⟩
    · exact .inr (hw'.blk i e0 b h1 (hblkIn j i e0 b hl hb))
    · exact .inl (hw.blk j e b h1 (hblkOut j e b hl hb))
  · intro j j' e e' b hj hj' hb hb'
    have mix : ∀ (i : Nat) e0 (j' : Nat) e', H'[i]? = some e0 → g'.blk i e0 b → L j' = none → H[j']? = some e' → g.blk j' e' b → False := by
      intro i e0 j' e' h1 h2 hl h3 h4
      obtain ⟨f1, f2⟩ := hfar j' e' b hl h3 h4
      rcases hX' b (hw'.blk i e0 b h1 h2) with h5 | h5
      · exact f2 h5
      · omega
    rcases hent j e hj with ⟨i, e0, hl, hp, h1, rfl⟩ | ⟨hl, h1⟩ <;> rcases hent j' e' hj' with ⟨i', e0', hl', hp', h1', rfl⟩ | ⟨hl', h1'⟩
    · have := hw'.sep i i' e0 e0' b h1 h1' (hblkIn j i e0 b hl hb) (hblkIn j' i' e0' b hl' hb')
      subst this; rw [← hp, ← hp']
    · exact (mix i e0 j' e' h1 (hblkIn j i e0 b hl hb) hl' h1' (hblkOut j' e' b hl' hb')).elim
    · exact (mix i' e0' j e h1' (hblkIn j' i' e0' b hl' hb') hl h1 (hblkOut j e b hl hb)).elim
    · exact hw.sep j j' e e' b h1 h1' (hblkOut j e b hl hb) (hblkOut j' e' b hl' hb')
  · intro j c hj
    rcases hent j _ hj with ⟨i, e0, hl, hp, h1, h2⟩ | ⟨hl, h1⟩
    · cases e0 with
      | row c0 =>
        simp only [HE.rn, HE.row.injEq] at h2
        subst h2
        obtain ⟨b, arr, et, k1, k2, k3, k4, k5⟩ := hw'.row i c0 h1
        refine ⟨b, arr, et, by rw [← hp, hσL]; exact k1, k2, by simpa using k3, fun k x v hx hv => ?_, k5⟩
        simp only [List.getElem?_map, Option.map_eq_some_iff] at hx
        obtain ⟨y, hy, rfl⟩ := hx
        have := List.all_eq_true.1 hHs _ (List.mem_of_getElem? h1)
        exact hout (List.all_eq_true.1 this y (List.mem_of_getElem? hy)) (k4 k y v hy hv)
      | _ => cases h2
    · obtain ⟨b, arr, et, k1, k2, k3, k4, k5⟩ := hw.row j c h1
      obtain ⟨f1, f2⟩ := hfar j _ b hl h1 k1
      refine ⟨b, arr, et, by show (match L j with | some i => g'.σ i | none => g.σ j) = some b; rw [hl]; exact k1, (keep b f1 f2).trans k2, k3, fun k x v hx hv => (k4 k x v hx hv).mono hev, fun o hp => k5 o (hold b o hp f1 f2)⟩
  · intro j n e s hj
    rcases hent j _ hj with ⟨i, e0, hl, hp, h1, h2⟩ | ⟨hl, h1⟩
    · cases e0 with
      | tok n0 e0 s0 =>
        simp only [HE.rn] at h2
        injection h2 with q1 q2 q3; subst q1; subst q2; subst q3
        obtain ⟨a, cap, k1, k2⟩ := hw'.tok i n e s h1
        exact ⟨a, cap, by rw [← hp, hτL]; exact k1, k2⟩
      | _ => cases h2
    · obtain ⟨a, cap, k1, k2, k3, k4⟩ := hw.tok j n e s h1
      refine ⟨a, cap, by show (match L j with | some i => g'.τ i | none => g.τ j) = _; rw [hl]; exact k1, k2, k3, fun hc => ?_⟩
      obtain ⟨b, arr, q1, q2, q3, q4⟩ := k4 hc
      obtain ⟨f1, f2⟩ := hfar j _ b hl h1 (by simp [G.blk, k1, hc, q1])
      exact ⟨b, arr, q1, (keep b f1 f2).trans q2, q3, fun o hp => q4 o (hold b o hp f1 f2)⟩
  · intro j l e s hj
    rcases hent j _ hj with ⟨i, e0, hl, hp, h1, h2⟩ | ⟨hl, h1⟩
    · cases e0 with
      | lst l0 e0 s0 =>
        simp only [HE.rn] at h2
        injection h2 with q1 q2 q3; subst q1; subst q2; subst q3
        obtain ⟨a, cap, k1, k2, k3, k4⟩ := hw'.lst i l e s h1
        refine ⟨a, cap, by rw [← hp, hτL]; exact k1, k2, k3, fun hc => ?_⟩
        obtain ⟨b, arr, q1, q0, q2⟩ := k4 hc
        exact ⟨b, arr, q1, by rw [← hp, hσL]; exact q0, q2⟩
      | _ => cases h2
    · obtain ⟨a, cap, k1, k2, k3, k4⟩ := hw.lst j l e s h1
      refine ⟨a, cap, by show (match L j with | some i => g'.τ i | none => g.τ j) = _; rw [hl]; exact k1, k2, k3, fun hc => ?_⟩
      obtain ⟨b, arr, q1, q0, q2, q3, q4, q5⟩ := k4 hc
      obtain ⟨f1, f2⟩ := hfar j _ b hl h1 (by simp [G.blk, k1, hc, q1])
      exact ⟨b, arr, q1, by show (match L j with | some i => g'.σ i | none => g.σ j) = some b; rw [hl]; exact q0, (keep b f1 f2).trans q2, q3, fun o hp => q4 o (hold b o hp f1 f2), fun k x v hx hv => (q5 k x v hx hv).mono hev.pr⟩
  · intro j x hj
    rcases hent j _ hj with ⟨i, e0, hl, hp, h1, h2⟩ | ⟨hl, h1⟩
    · cases e0 with
      | ob y =>
        simp only [HE.rn] at h2
        injection h2 with h2; subst h2
        obtain ⟨b, k1, k2, k3, k4⟩ := hw'.ob i _ h1
        have hfr : x.fr = true := List.all_eq_true.1 hHs _ (List.mem_of_getElem? h1)
        have hυ : g2.υ j = g'.υ i := by show (match L j with | some i => g'.υ i | none => g.υ j) = _; rw [hl]
        exact ⟨b, by rw [← hp, hσL]; exact k1, x.fre hfr (g := g') (g' := g2) rfl (by rw [← hp, hτL]) hυ k2, k3, fun b' o hu hp' => k4 b' o (by rwa [hυ] at hu) hp'⟩
      | _ => cases h2
    · obtain ⟨b, k1, k2, k3, k4⟩ := hw.ob j x h1
      obtain ⟨f1, f2⟩ := hfar j _ b hl h1 (.inl k1)
      have hυ : g2.υ j = g.υ j := by show (match L j with | some i => g'.υ i | none => g.υ j) = _; rw [hl]
      have hfu : ∀ b', g.υ j b' → b' < w.heap.size ∧ ¬ g0.X b' := fun b' hu => hfar j _ b' hl h1 (.inr hu)
      exact ⟨b, by show (match L j with | some i => g'.σ i | none => g.σ j) = some b; rw [hl]; exact k1, x.st hev.w (by show (match L j with | some i => g'.τ i | none => g.τ j) = g.τ j; rw [hl]) hυ (keep b f1 f2) (fun b' hu => keep b' (hfu b' hu).1 (hfu b' hu).2) k2, fun o hp => k3 o (hold b o hp f1 f2), fun b' o hu hp => by
        rw [hυ] at hu
        exact k4 b' o hu (hold b' o hp (hfu b' hu).1 (hfu b' hu).2)⟩
  · intro j hj
    cases hl : L j with
    | none =>
      have h1 : g2.σ j = g.σ j ∧ g2.τ j = g.τ j := by simp only [g2, hl]; exact ⟨trivial, trivial⟩
      have hυ : g2.υ j = g.υ j := by simp only [g2, hl]
      rw [h1.1, h1.2, hυ]
      refine hw.free j ?_
      rcases hj with hj | hj
      · rcases hent j _ hj with ⟨i, e0, hl', _⟩ | ⟨_, h2⟩
        · rw [hl] at hl'; cases hl'
        · exact .inl h2
      · have := (loc_none hl).2
        have hlen : (mergeH H ids H').length = H.length + (H'.length - ids.length) := by simp [mergeH, setAll_length]
        omega
    | some i =>
      have hp : p i = j := loc_some hN hl
      have h1 : g2.σ j = g'.σ i ∧ g2.τ j = g'.τ i := by simp only [g2, hl]; exact ⟨trivial, trivial⟩
      have hυ : g2.υ j = g'.υ i := by simp only [g2, hl]
      rw [h1.1, h1.2, hυ]
      refine hw'.free i ?_
      rcases hj with hj | hj
      · rcases hent j _ hj with ⟨i', e0, hl', _, h2, h3⟩ | ⟨hl', _⟩
        · rw [hl] at hl'; injection hl' with hl'; subst hl'
          cases e0 <;> simp only [HE.rn] at h3 <;> first | exact .inl h2 | cases h3
        · rw [hl] at hl'; cases hl'
      · have hlen : (mergeH H ids H').length = H.length + (H'.length - ids.length) := by simp [mergeH, setAll_length]
        refine .inr ?_
        rcases Nat.lt_or_ge i ids.length with hi | hi
        · have := hlt i hi
          have h3 := hN _ (List.mem_of_getElem? this)
          have h4 : p i < H.length := h3
          omega
        · have : ids[i]? = none := List.getElem?_eq_none hi
          have h4 : p i = H.length + (i - ids.length) := by simp [p, glob, this]
          omega
end Go.Proofs.YtlbiooppadlolaaGreatDoor.Ab
end
section
namespace Go.Proofs.YtlbiooppadlolaaGreatDoor.Ab
open Go

/-- The end of a function: its results and its heap, the entries numbered anew. -/
def EndG (P : Program) (rs : List ResultVar) (n0 : Nat) (vs0 : List V) (H1 : List HE) : Exit → St → Prop
  | .normal, st | .ret, st => ∃ vs S, ResL P st rs vs ∧ idPre n0 S = true ∧ distinct S = true ∧ LeRC S vs vs0 ∧ LeRH S st.H S H1
  | _, _ => False

theorem resOf_tup {vs : List V} (h : vs.length ≠ 1) : resOf vs = .tup vs := by
  match vs, h with
  | [], _ => rfl
  | [_], h => exact absurd rfl h
  | _ :: _ :: _, _ => rfl
theorem resOf_ren {g : G} {w : World} {S : List Nat} {vs vs0 : List V} (h : LeRC S vs vs0) {r : Value} (hr : Rep g w (resOf vs) r) : Rep (g.ren S) w (resOf vs0) r := by
  obtain ⟨hl, hg⟩ := h.get
  by_cases h1 : vs.length = 1
  · obtain ⟨v, rfl⟩ := List.length_eq_one_iff.1 h1
    obtain ⟨u, rfl⟩ := List.length_eq_one_iff.1 (hl ▸ h1)
    obtain ⟨y, hy, hle⟩ := hg 0 u rfl
    simp at hy; subst hy
    exact hle.rep hr
  · rw [resOf_tup h1] at hr
    rw [resOf_tup (by omega)]
    cases hr with
    | tup h1 h2 =>
      refine .tup (by omega) (fun i x v hx hv => ?_)
      obtain ⟨y, hy, hle⟩ := hg i x hx
      exact hle.rep (h2 i y v hy hv)

theorem ACall.of_AWG {P : Program} {f : FuncId} {fnn : Func} {c : Code} {args : List V} {H H1 : List HE} {vs0 : List V} (hf : P.funcs[f]? = some fnn) (hb : fnn.body = some c) (hn : args.length ≤ fnn.ntmps)
    (h : ∀ g0 w0, WOK g0 w0 H → AW ⟨P, fnn.ntmps, g0, w0⟩ c (EndG P fnn.results.toList H.length vs0 H1) ⟨envOf args, H⟩) : ACall P f args H fun r H' => r = resOf vs0 ∧ H' = H1 := by
  intro g w vals hw hs ha
  refine calls_of_wp hf hb (wp_mono (h g w hw { tmps := vals ++ Array.replicate (fnn.ntmps - vals.size) undef, defers := [] } w ⟨rfl, by simp; omega, g, hw, .refl _ _, fun i => ?_⟩) ?_)
  · by_cases hi : i < args.length
    · have := envOf_rep (args := args) (vals := vals.toList) (by simpa using hs.symm) (fun i x v hx hv => ha i x v hx (by simpa [Array.getElem?_toList] using hv)) i
      have e : (vals ++ Array.replicate (fnn.ntmps - vals.size) undef).getD i undef = vals.toList.getD i undef := by
        simp [Array.getD_eq_getD_getElem?, Array.getElem?_append_left (show i < vals.size by omega)]
      rw [e]; exact this
    · show Rep g w (envOf args i) _
      rw [envOf_any (by omega)]; exact .any
  · rintro e a' w' ⟨st', ⟨h1, h2, g', h3, h4, h5⟩, hq⟩
    have fin : (∃ vs S, ResL P st' fnn.results.toList vs ∧ idPre H.length S = true ∧ distinct S = true ∧ LeRC S vs vs0 ∧ LeRH S st'.H S H1) →
        ∃ v, (results fnn a'.tmps).run P w' = .ok v w' ∧ ∃ rv res g'' H', Ending.returned v = .returned rv ∧ WOK g'' w' H' ∧ Evo g w g'' w' ∧ Rep g'' w' res rv ∧ (res = resOf vs0 ∧ H' = H1) := by
      rintro ⟨vs, S, hr, k1, k2, k3, k4⟩
      obtain ⟨r, e1, e2⟩ := results_run (fnn := fnn) h3 h5 hr
      refine ⟨r, e1, r, _, g'.ren S, _, rfl, h3.ren k4 k2, ?_, resOf_ren k3 e2, rfl, rfl⟩
      refine ⟨h4.same, h4.size, h4.pr, h4.prn, h4.x, h4.keep, fun id b hb => ?_, fun id m a cap ht => ?_⟩
      · have hlt : id < H.length := by
          rcases Nat.lt_or_ge id H.length with h | h
          · exact h
          · rw [(hw.free id (.inr h)).1] at hb; cases hb
        simp [G.ren, idPre_get k1 hlt, h4.σ id b hb]
      · have hlt : id < H.length := by
          rcases Nat.lt_or_ge id H.length with h | h
          · exact h
          · rw [(hw.free id (.inr h)).2.1] at ht; cases ht
        simpa [G.ren, idPre_get k1 hlt] using h4.τ id m a cap ht
    cases e with
    | normal => exact ⟨h1, fin hq⟩
    | ret => exact ⟨h1, fin hq⟩
    | exit id => exact hq.elim
    | goto l => exact hq.elim
    | panic c => exact hq.elim
    | outgrown => exact hq.elim

/-- The entries that a call is handed. -/
inductive InH (H : List HE) (p : Nat → Nat) : List Nat → List HE → Prop
  | nil : InH H p [] []
  | cons {id : Nat} {e : HE} {ids : List Nat} {H0 : List HE} : H[id]? = some (e.rn p) → InH H p ids H0 → InH H p (id :: ids) (e :: H0)
theorem InH.get {H : List HE} {p : Nat → Nat} {ids : List Nat} {H0 : List HE} (h : InH H p ids H0) : ids.length = H0.length ∧ ∀ (i : Nat) e, H0[i]? = some e → ∃ id, ids[i]? = some id ∧ H[id]? = some (e.rn p) := by
  induction h with
  | nil => simp
  | cons h1 _ ih =>
    refine ⟨by simp [ih.1], fun i e he => ?_⟩
    cases i with
    | zero => simp only [List.getElem?_cons_zero, Option.some.injEq] at he; subst he; exact ⟨_, rfl, h1⟩
    | succ i => exact ih.2 i e (by simpa using he)

section
variable {P : Program} {ρ : Operand → V} {H : List HE} {ty : TypeId}
theorem op_callF {fop : Operand} {f : FuncId} {args : Array Operand} {ts : Array TypeId} {args0 vs caps : List V} {H0 H1 H' : List HE} {r0 v : V} (ids : List Nat) (hc : ∀ (a : Array Value) (w : World), (callFunc f a).run P w = .ok (.enter f a) w)
    (hf : Is (ρ fop) (.fn (.func f) caps)) (ha : ArgsV ρ args.toList vs) (h : ACall P f args0 H0 fun r H' => r = r0 ∧ H' = H1) (hargs : vs ++ caps = args0.map (V.rn (glob ids H.length))) (hin : InH H (glob ids H.length) ids H0) (hd : distinct ids = true)
    (hs0 : H0.all HE.simple = true) (ha0 : args0.all V.simple = true) (hr0 : r0.simple = true) (hH1 : H1.all HE.simple = true) (hkl : Nat.ble ids.length H1.length = true) (hv : r0.rn (glob ids H.length) = v) (hm : mergeH H ids H1 = H') :
    OpV P (.call ⟨.value fop, args, ts⟩) ty ρ H v H' := by
  subst hv; subst hm
  refine op_call hc hf ha ?_
  rw [hargs]
  refine (h.frame ids hin.get.1 hd hin.get.2 hs0 ha0 (fun r H' ⟨h1, h2⟩ => by subst h1; subst h2; exact ⟨hr0, hH1, Nat.le_of_ble_eq_true hkl⟩)).mono ?_
  rintro r H' ⟨r0', H0', ⟨rfl, rfl⟩, h3, h4⟩
  exact ⟨h3, h4⟩

theorem WOK.lstize {g : G} {w : World} {s : Nat} {e : TypeId} {ad : Option Addr} (hw : WOK g w H) :
    ∃ g', WOK g' w (H ++ [.lst [] e s]) ∧ Evo g w g' w ∧ g'.τ H.length = some (0, ad, 0) := by
  obtain ⟨hfσ, hfτ, hfυ⟩ := hw.free H.length (.inr (Nat.le_refl _))
  let g' : G := { σ := g.σ, τ := fun i => if i = H.length then some (0, ad, 0) else g.τ i, υ := g.υ, X := g.X, Pr := g.Pr }
  have hτ' : ∀ i, i ≠ H.length → g'.τ i = g.τ i := fun i h => by simp [g', h]
  have hτid : g'.τ H.length = some (0, ad, 0) := by simp [g']
  have hev : Evo g w g' w := {
    same := ⟨rfl, rfl, rfl⟩
    size := Nat.le_refl _
    pr := fun b o hp => ⟨hp, rfl⟩
    prn := fun b o h => .inl h
    x := fun b h => .inl h
    keep := fun b _ _ => rfl
    σ := fun i b h => h
    τ := fun i m a c h => by
      have : i ≠ H.length := fun e => by subst e; rw [hfτ] at h; cases h
      exact ⟨m, a, c, by rw [hτ' i this]; exact h, .inr ⟨rfl, rfl, rfl⟩⟩ }
  have hget : ∀ (i : Nat) x, (H ++ [HE.lst [] e s])[i]? = some x → (i = H.length ∧ x = .lst [] e s) ∨ (i ≠ H.length ∧ H[i]? = some x) := by
    intro i x hx
    by_cases hi : i < H.length
    · rw [List.getElem?_append_left hi] at hx; exact .inr ⟨by omega, hx⟩
    · rw [List.getElem?_append_right (by omega)] at hx
      have : i - H.length = 0 := by
        by_cases h0 : i - H.length = 0
        · exact h0
        · rw [List.getElem?_eq_none (by simp; omega)] at hx; cases hx
      rw [this] at hx
      exact .inl ⟨by omega, by simpa using hx.symm⟩
  have hblk : ∀ (i : Nat) x b, (H ++ [HE.lst [] e s])[i]? = some x → g'.blk i x b → H[i]? = some x ∧ g.blk i x b := by
    intro i x b hx hb
    rcases hget i x hx with ⟨rfl, rfl⟩ | ⟨hi, h⟩
    · simp [G.blk, hτid] at hb
    · refine ⟨h, ?_⟩
      cases x <;> simp only [G.blk, hτ' i hi] at hb ⊢ <;> exact hb
  refine ⟨g', ⟨hw.pr, hw.xs, ?_, ?_, ?_, ?_, ?_, ?_, ?_, hw.kc⟩, hev, hτid⟩
  · intro i x b hx hb
    obtain ⟨k1, k2⟩ := hblk i x b hx hb
    exact hw.blk i x b k1 k2
  · intro i i' x x' b hx hx' hb hb'
    obtain ⟨k1, k2⟩ := hblk i x b hx hb
    obtain ⟨k3, k4⟩ := hblk i' x' b hx' hb'
    exact hw.sep i i' x x' b k1 k3 k2 k4
  · intro i c hx
    rcases hget i _ hx with ⟨_, h⟩ | ⟨hi, h⟩
    · cases h
    · obtain ⟨b1, arr1, et1, k1, k2, k3, k4, k5⟩ := hw.row i c h
      exact ⟨b1, arr1, et1, k1, k2, k3, fun k x v hx hv => (k4 k x v hx hv).mono hev, k5⟩
  · intro i m e1 s1 hx
    rcases hget i _ hx with ⟨_, h⟩ | ⟨hi, h⟩
    · cases h
    · obtain ⟨a, cap, k1, k2⟩ := hw.tok i m e1 s1 h
      exact ⟨a, cap, by rw [hτ' i hi]; exact k1, k2⟩
  · intro i l1 e1 s1 hx
    rcases hget i _ hx with ⟨rfl, h⟩ | ⟨hi, h⟩
    · injection h with q1 q2 q3
      subst q1; subst q2; subst q3
      exact ⟨ad, 0, hτid, by simp, by omega, fun h => by omega⟩
    · obtain ⟨a, cap, k1, k2⟩ := hw.lst i l1 e1 s1 h
      exact ⟨a, cap, by rw [hτ' i hi]; exact k1, k2⟩
  · intro i x hx
    rcases hget i _ hx with ⟨_, h⟩ | ⟨hi, h⟩
    · cases h
    · obtain ⟨b1, k1, k2, k3, k4⟩ := hw.ob i x h
      exact ⟨b1, k1, x.st hev.w (hτ' i hi) rfl rfl (fun _ _ => rfl) k2, k3, k4⟩
  · intro i hi
    have hne : i ≠ H.length ∧ (H[i]? = some .free ∨ H.length ≤ i) := by
      rcases hi with hi | hi
      · rcases hget i _ hi with ⟨_, h⟩ | ⟨h1, h⟩
        · cases h
        · exact ⟨h1, .inl h⟩
      · simp at hi; exact ⟨by omega, .inr (by omega)⟩
    rw [hτ' i hne.1]
    exact hw.free i hne.2

/-- The first append to an empty list that will be written in place. -/
theorem op_appendEH {α : Type} {f : α → D} {l' r : List α} {x y : Operand} {t e s bytes n : Nat} (ht : SlT P t e s bytes) (hx : Is (ρ x) (.ex [])) (hy : As (ρ y) (.sl (l'.map f))) (hn : H.length = n) (hf : En f s) (hv : app bytes [] l' = some r) :
    OpV P (.call ⟨.builtin .append, #[x, y], #[t, t]⟩) ty ρ H (.hs (n + 1) 0 r.length s) (H ++ [.dead, .lst (r.map f) e s]) := by
  classical
  subst hn
  intro g w rr pos after guard dst hw h
  have h1 := hx.rep (h x (by simp [Op.operands, Call.operands]))
  generalize hrx : rr x = vx at h1
  cases h1 with
  | @ex _ ad hd =>
    obtain ⟨g1, w1, w2, w3⟩ := WOK.lstize (e := e) (s := s) (ad := ad) hw
    have hy2 := hy.rep (h y (by simp [Op.operands, Call.operands]))
    have key := op_appendHM (P := P) (ty := ty) (ρ := fun z => if z = x then .hs H.length 0 0 s else .d (.sl (l'.map f))) (H := H ++ [.lst [] e s]) (x := x) (y := y) (l := ([] : List α)) (l' := l') (r := r) (f := f) (id := H.length) (len := 0) (n := H.length + 1) ht
    by_cases hxy : y = x
    · -- the list is appended to itself: both are empty
      subst hxy
      have hl' : l' = [] := by
        obtain ⟨a', c', h3, _⟩ := slice_form hy2
        rw [hrx] at h3
        injection h3 with h3 h4 h5
        simp at h4
        exact List.eq_nil_of_length_eq_zero (by omega)
      subst hl'
      have hr : r = [] := by
        unfold app at hv; split at hv
        · injection hv with hv; subst hv; rfl
        · cases hv
      subst hr
      have hH1 : ((H ++ [HE.lst [] e s]) ++ [.free])[H.length]? = some (.lst [] e s) := by simp
      have hfr : ((H ++ [HE.lst [] e s]) ++ [HE.free])[H.length + 1]? = some .free := by
        rw [List.getElem?_append_right (by simp)]; simp
      obtain ⟨g2, m1, m2, m3, _⟩ := w1.addFree.moveLst hH1 hfr
      unfold OpRuns
      have hrun : (execOp rr ⟨dst, .call ⟨.builtin .append, #[y, y], #[t, t]⟩, ty, pos, after, guard⟩).run P w = .ok (.value (.slice ad 0 0)) w := by
        have := append_none_run (P := P) (ty := ty) ht (w := w) (a := ad) (a' := ad) (n := 0) (cap := 0) (cap' := 0) (Nat.le_refl _)
        simp at hrx
        simp [execOp, resolve, invoke, builtin, hrx, this]
      rw [hrun]
      refine ⟨g2, ?_, w2.trans m2, .hs (m3.trans w3) (fun _ => ⟨rfl, rfl, rfl, Nat.le_refl _⟩)⟩
      have e1 : ((H ++ [HE.lst [] e s]) ++ [HE.free]).set H.length .dead = H ++ [.dead, .free] := by simp
      rw [e1] at m1
      have e2 : (H ++ [HE.dead, HE.free]).set (H.length + 1) (.lst [] e s) = H ++ [.dead, .lst [] e s] := by
        rw [List.set_append_right _ _ (by omega)]; simp
      rw [e2] at m1
      exact m1
    · have k := key (.e (by simp)) (by rw [if_neg hxy]; exact .r rfl) (by simp) rfl (by simp) hf hv g1 w rr pos after guard dst w1 (fun z hz => by
        simp only [Op.operands, Call.operands] at hz
        by_cases hzx : z = x
        · subst hzx
          simp only [if_pos]
          rw [hrx]
          exact .hs w3 (fun _ => ⟨rfl, rfl, rfl, Nat.le_refl _⟩)
        · simp only [if_neg hzx]
          have : z = y := by simp at hz; rcases hz with hz | hz; exact absurd hz hzx; exact hz
          subst this
          exact .d (hy2.mono w2.pr))
      unfold OpRuns at k ⊢
      revert k
      generalize (execOp rr ⟨dst, .call ⟨.builtin .append, #[x, y], #[t, t]⟩, ty, pos, after, guard⟩).run P w = res
      cases res with
      | ok n w' =>
        have fin : ∀ {rv : Value} {w' : World}, (∃ g', WOK g' w' ((H ++ [HE.lst [] e s]).set H.length .dead ++ [.lst (r.map f) e s]) ∧ Evo g1 w g' w' ∧ Rep g' w' (.hs (H.length + 1) 0 r.length s) rv) →
            ∃ g', WOK g' w' (H ++ [.dead, .lst (r.map f) e s]) ∧ Evo g w g' w' ∧ Rep g' w' (.hs (H.length + 1) 0 r.length s) rv := by
          rintro rv w' ⟨g', q1, q2, q3⟩
          refine ⟨g', ?_, w2.trans q2, q3⟩
          simpa using q1
        cases n <;> simp only <;> intro k
        case value v => exact fin k
        case skip => exact fin k
        case enter f0 args => exact k.mono fun e w'' ⟨v, h1, h2⟩ => ⟨v, h1, fin h2⟩
        all_goals exact k
      | halt x w' => exact fun k => k
end
end Go.Proofs.YtlbiooppadlolaaGreatDoor.Ab
end
section
namespace Go.Proofs.YtlbiooppadlolaaGreatDoor.Ab
open Go

/-- The same memory, a row's cells known otherwise. -/
theorem WOK.recell {g : G} {w : World} {H : List HE} {id : Nat} {c d : List V} (hw : WOK g w H) (hH : H[id]? = some (.row c)) (hl : c.length = d.length) (h : ∀ (i : Nat) x y r, c[i]? = some x → d[i]? = some y → Rep g w x r → Rep g w y r) : WOK g w (H.set id (.row d)) := by
  have hidlt : id < H.length := (List.getElem?_eq_some_iff.1 hH).1
  have hget : ∀ (i : Nat) e, (H.set id (.row d))[i]? = some e → (i = id ∧ e = .row d) ∨ (i ≠ id ∧ H[i]? = some e) := by
    intro i e he
    by_cases hi : i = id
    · subst hi; rw [List.getElem?_set_self hidlt] at he; exact .inl ⟨rfl, (Option.some.inj he).symm⟩
    · rw [List.getElem?_set_ne (Ne.symm hi)] at he; exact .inr ⟨hi, he⟩
  have hblk : ∀ (i : Nat) e b', (H.set id (.row d))[i]? = some e → g.blk i e b' → ∃ e', H[i]? = some e' ∧ g.blk i e' b' := by
    intro i e b' he hb'
    rcases hget i e he with ⟨rfl, rfl⟩ | ⟨_, h⟩
    · exact ⟨_, hH, hb'⟩
    · exact ⟨e, h, hb'⟩
  refine ⟨hw.pr, hw.xs, ?_, ?_, ?_, ?_, ?_, ?_, ?_, hw.kc⟩
  · intro i e b he hb
    obtain ⟨e', h1, h2⟩ := hblk i e b he hb
    exact hw.blk i e' b h1 h2
  · intro i i' e e' b he he' hb hb'
    obtain ⟨e1, h1, h2⟩ := hblk i e b he hb
    obtain ⟨e3, h3, h4⟩ := hblk i' e' b he' hb'
    exact hw.sep i i' e1 e3 b h1 h3 h2 h4
  · intro i ci hi
    rcases hget i _ hi with ⟨rfl, he⟩ | ⟨_, h'⟩
    · injection he with he; subst he
      obtain ⟨b, arr, et, k1, k2, k3, k4, k5⟩ := hw.row i c hH
      refine ⟨b, arr, et, k1, k2, by omega, fun k x v hx hv => ?_, k5⟩
      have hk : k < c.length := by rw [hl]; exact (List.getElem?_eq_some_iff.1 hx).1
      exact h k _ x v (List.getElem?_eq_getElem hk) hx (k4 k _ v (List.getElem?_eq_getElem hk) hv)
    · exact hw.row i ci h'
  · intro i n e s hi
    rcases hget i _ hi with ⟨_, he⟩ | ⟨_, h'⟩
    · cases he
    · exact hw.tok i n e s h'
  · intro i l e s hi
    rcases hget i _ hi with ⟨_, he⟩ | ⟨_, h'⟩
    · cases he
    · exact hw.lst i l e s h'
  · intro i x hi
    rcases hget i _ hi with ⟨_, he⟩ | ⟨_, h'⟩
    · cases he
    · exact hw.ob i x h'
  · intro i hi
    refine hw.free i ?_
    rcases hi with hi | hi
    · rcases hget i _ hi with ⟨_, he⟩ | ⟨_, h'⟩
      · cases he
      · exact .inl h'
    · exact .inr (by simpa using hi)

/-- An empty list in a cell begins as one that is written in place. -/
theorem AW.lstizeC {F : FC} {Q : Exit → St → Prop} {c : Code} {E : Nat → V} {H : List HE} {cs : List V} (rid k : Nat) (e : TypeId) (s : Nat) {n : Nat} (hH : H[rid]? = some (.row cs)) (hc : cs[k]? = some (.ex [])) (hn : H.length = n)
    (h : AW F c Q ⟨E, H.set rid (.row (cs.set k (.hs n 0 0 s))) ++ [.lst [] e s]⟩) : AW F c Q ⟨E, H⟩ := by
  subst hn
  rintro a w ⟨h1, h2, g, h3, h4, h5⟩
  have hlt : rid < H.length := (List.getElem?_eq_some_iff.1 hH).1
  -- what the cell holds
  obtain ⟨b, arr, et, k1, k2, k3, k4, _⟩ := h3.row rid cs hH
  have hkl : k < cs.length := (List.getElem?_eq_some_iff.1 hc).1
  have hcell := k4 k _ arr[k] hc (by simp [show k < arr.size by omega])
  generalize hv : arr[k] = v at hcell
  cases hcell with
  | @ex _ ad hd =>
    obtain ⟨g', w1, w2, w3⟩ := WOK.lstize (e := e) (s := s) (ad := ad) h3
    have hH1 : (H ++ [HE.lst [] e s])[rid]? = some (.row cs) := by rw [List.getElem?_append_left hlt]; exact hH
    obtain ⟨b', arr', et', q1, q2, q3, q4, q5⟩ := w1.row rid cs hH1
    have hb : b' = b := by have := w2.σ rid b k1; rw [this] at q1; injection q1 with q1; exact q1.symm
    subst hb
    have harr : arr' = arr := by rw [k2] at q2; injection q2 with q2; injection q2 with q2; exact q2.symm
    subst harr
    -- the row anew
    have hidlt : rid < (H ++ [HE.lst [] e s]).length := by simp; omega
    have key : WOK g' w ((H ++ [HE.lst [] e s]).set rid (.row (cs.set k (.hs H.length 0 0 s)))) := by
      have hget : ∀ (i : Nat) x, ((H ++ [HE.lst [] e s]).set rid (.row (cs.set k (.hs H.length 0 0 s))))[i]? = some x → (i = rid ∧ x = .row (cs.set k (.hs H.length 0 0 s))) ∨ (i ≠ rid ∧ (H ++ [HE.lst [] e s])[i]? = some x) := by
        intro i x he
        by_cases hi : i = rid
        · subst hi; rw [List.getElem?_set_self hidlt] at he; exact .inl ⟨rfl, (Option.some.inj he).symm⟩
        · rw [List.getElem?_set_ne (Ne.symm hi)] at he; exact .inr ⟨hi, he⟩
      have hblk : ∀ (i : Nat) x b', ((H ++ [HE.lst [] e s]).set rid (.row (cs.set k (.hs H.length 0 0 s))))[i]? = some x → g'.blk i x b' → ∃ e', (H ++ [HE.lst [] e s])[i]? = some e' ∧ g'.blk i e' b' := by
        intro i x b' he hb'
        rcases hget i x he with ⟨rfl, rfl⟩ | ⟨_, h⟩
        · exact ⟨_, hH1, hb'⟩
        · exact ⟨x, h, hb'⟩
      refine ⟨w1.pr, w1.xs, ?_, ?_, ?_, ?_, ?_, ?_, ?_, w1.kc⟩
      · intro i x b he hb
        obtain ⟨e', h1, h2⟩ := hblk i x b he hb
        exact w1.blk i e' b h1 h2
      · intro i i' x x' b he he' hb hb'
        obtain ⟨e1, h1, h2⟩ := hblk i x b he hb
        obtain ⟨e3, h3, h4⟩ := hblk i' x' b he' hb'
        exact w1.sep i i' e1 e3 b h1 h3 h2 h4
      · intro i ci hi
        rcases hget i _ hi with ⟨rfl, he⟩ | ⟨_, h'⟩
        · injection he with he; subst he
          refine ⟨b', arr', et', q1, q2, by simpa using q3, fun j x v' hx hv' => ?_, q5⟩
          rw [List.getElem?_set] at hx
          split at hx
          · rename_i hkj
            subst hkj
            try rw [if_pos hkl] at hx
            injection hx with hx; subst hx
            have : v' = arr'[k] := by
              rw [← Option.some_inj, ← hv']; simp [show k < arr'.size by omega]
            rw [this, hv]
            exact .hs w3 (fun _ => ⟨rfl, rfl, rfl, Nat.le_refl _⟩)
          · exact q4 j x v' hx hv'
        · exact w1.row i ci h'
      · intro i n e s hi
        rcases hget i _ hi with ⟨_, he⟩ | ⟨_, h'⟩
        · cases he
        · exact w1.tok i n e s h'
      · intro i l e s hi
        rcases hget i _ hi with ⟨_, he⟩ | ⟨_, h'⟩
        · cases he
        · exact w1.lst i l e s h'
      · intro i x hi
        rcases hget i _ hi with ⟨_, he⟩ | ⟨_, h'⟩
        · cases he
        · exact w1.ob i x h'
      · intro i hi
        refine w1.free i ?_
        rcases hi with hi | hi
        · rcases hget i _ hi with ⟨_, he⟩ | ⟨_, h'⟩
          · cases he
          · exact .inl h'
        · exact .inr (by simpa using hi)
    rw [List.set_append_left _ _ hlt] at key
    exact h a w ⟨h1, h2, g', key, h4.trans w2, fun i => (h5 i).mono w2⟩

/-- A list is given up to be data: slots, and cells of one row, that hold it. -/
theorem AW.freezeC2 {F : FC} {Q : Exit → St → Prop} {c : Code} {E : Nat → V} {H : List HE} {α : Type} {f : α → D} {l : List α} {e : TypeId} {s len : Nat} {cs cs2 : List V} (id : Nat) (ts : List Nat) (rid k rid2 k2 : Nat) (hH : H[id]? = some (.lst (l.map f) e s)) (hl : l.length = len) (hf : En f s)
    (hE : SameE E (.hs id 0 len s) ts) (hR : H[rid]? = some (.row cs)) (hk : cs[k]? = some (.hs id 0 len s)) (hR2 : H[rid2]? = some (.row cs2)) (hk2 : cs2[k2]? = some (.hs id 0 len s)) (hne2 : Nat.beq rid rid2 = false) (h : AW F c Q ⟨setE E ts (.d (.sl (l.map f))), ((H.set id .dead).set rid (.row (cs.set k (.d (.sl (l.map f)))))).set rid2 (.row (cs2.set k2 (.d (.sl (l.map f)))))⟩) : AW F c Q ⟨E, H⟩ := by
  rintro a w ⟨h1, h2, g, h3, h4, h5⟩
  obtain ⟨a0, cap0, k1, _, _⟩ := h3.lst id _ _ _ hH
  obtain ⟨g', w1, w2, w3, w4⟩ := h3.freeze hH (hf.szL l)
  have conv : ∀ r, Rep g' w (.hs id 0 len s) r → Rep g' w (.d (.sl (l.map f))) r := by
    intro r hr
    cases hr with
    | @hs _ _ _ _ m cap' n0 c0 a' a0' p1 p2 =>
      rw [w3, k1] at p1; injection p1 with p1; injection p1 with p1 p3; injection p3 with p3 p4
      obtain ⟨r1, r2, r3, _⟩ := hs0 (p2 p1.symm)
      have := w4 a0 cap0 k1
      subst r1; subst r3; subst p3; subst p4
      rw [r2, ← hl]
      simp only [List.length_map] at this
      exact .d this
  have hne : rid ≠ id := fun e => by subst e; rw [hH] at hR; cases hR
  have key := w1.recell (id := rid) (c := cs) (d := cs.set k (.d (.sl (l.map f)))) (by rw [List.getElem?_set_ne (Ne.symm hne)]; exact hR) (by simp) (fun i x y r hx hy hr => by
    rw [List.getElem?_set] at hy
    split at hy
    · rename_i hki
      subst hki
      rw [hk] at hx; injection hx with hx; subst hx
      split at hy
      · injection hy with hy; subst hy; exact conv r hr
      · cases hy
    · rw [hx] at hy; injection hy with hy; subst hy; exact hr)
  have hne3 : rid2 ≠ id := fun e => by subst e; rw [hH] at hR2; cases hR2
  have hne4 : rid ≠ rid2 := fun e => by subst e; simp at hne2
  have key2 := key.recell (id := rid2) (c := cs2) (d := cs2.set k2 (.d (.sl (l.map f)))) (by rw [List.getElem?_set_ne hne4, List.getElem?_set_ne (Ne.symm hne3)]; exact hR2) (by simp) (fun i x y r hx hy hr => by
    rw [List.getElem?_set] at hy
    split at hy
    · rename_i hki
      subst hki
      rw [hk2] at hx; injection hx with hx; subst hx
      split at hy
      · injection hy with hy; subst hy; exact conv r hr
      · cases hy
    · rw [hx] at hy; injection hy with hy; subst hy; exact hr)
  exact h a w ⟨h1, h2, g', key2, h4.trans w2, fun i => setE_rep ((h5 i).mono w2) (conv _) hE⟩
end Go.Proofs.YtlbiooppadlolaaGreatDoor.Ab
end
