/- Functions that read some rows of the heap: what they come to over a small heap they come to over any heap that has these rows. Conditions: none. -/
import Derived.Test.YtkfffaoopcnaoaaAb12
namespace Go.Proofs.Ytkfffaoopcnaoaa.Ab
open Go

/-- Data out, and the rows that came in as they were. -/
def FnR (P : Program) (f : FuncId) (args : List V) (H : List HE) (res : D) : Prop := ACall P f args H fun r H' => r = .d res ∧ H'.take H.length = H

/-- Values of a small heap, and what they are in a greater one: row i is row ids[i]. -/
inductive Ren (ids : List Nat) : V → V → Prop
  | d (x : D) : Ren ids (.d x) (.d x)
  | ptr {i id off : Nat} : ids[i]? = some id → Ren ids (.ptr i off) (.ptr id off)
inductive RenL (ids : List Nat) : List V → List V → Prop
  | nil : RenL ids [] []
  | cons {v u : V} {l m : List V} : Ren ids v u → RenL ids l m → RenL ids (v :: l) (u :: m)
theorem RenL.get {ids : List Nat} {l m : List V} (h : RenL ids l m) : l.length = m.length ∧ ∀ (i : Nat) u, l[i]? = some u → ∃ v, m[i]? = some v ∧ Ren ids u v := by
  induction h with
  | nil => simp
  | cons hv _ ih =>
    refine ⟨by simp [ih.1], fun i u hu => ?_⟩
    cases i with
    | zero => simp only [List.getElem?_cons_zero, Option.some.injEq] at hu; subst hu; exact ⟨_, rfl, hv⟩
    | succ i => exact ih.2 i u (by simpa using hu)

def V.isD : V → Bool
  | .d _ | .fn _ [] => true
  | _ => false
/-- The rows of the small heap, found in the greater one. -/
inductive Rows (H : List HE) : List Nat → List HE → Prop
  | nil : Rows H [] []
  | cons {id : Nat} {c : List V} {ids : List Nat} {H0 : List HE} : H[id]? = some (.row c) → c.all V.isD = true → Rows H ids H0 → Rows H (id :: ids) (.row c :: H0)
theorem Rows.get {H : List HE} {ids : List Nat} {H0 : List HE} (h : Rows H ids H0) : ids.length = H0.length ∧ ∀ (i : Nat) e, H0[i]? = some e → ∃ id c, ids[i]? = some id ∧ H[id]? = some (.row c) ∧ e = .row c ∧ c.all V.isD = true := by
  induction h with
  | nil => simp
  | cons h1 h2 _ ih =>
    refine ⟨by simp [ih.1], fun i e he => ?_⟩
    cases i with
    | zero => simp only [List.getElem?_cons_zero, Option.some.injEq] at he; subst he; exact ⟨_, _, rfl, h1, rfl, h2⟩
    | succ i => exact ih.2 i e (by simpa using he)
theorem isD_rep {g g' : G} {w : World} {v : V} {r : Value} (hv : v.isD = true) (hp : ∀ b o, g.Pr b o ↔ g'.Pr b o) (h : Rep g w v r) : Rep g' w v r := by
  cases v with
  | d x =>
    cases h with
    | d hd =>
      have : g.Pr = g'.Pr := by funext b o; exact propext (hp b o)
      exact .d (this ▸ hd)
  | fn f caps =>
    cases caps with
    | nil =>
      cases h with
      | fn hs hc => exact .fn hs (fun i x v hx => by simp at hx)
    | cons a l => simp [V.isD] at hv
  | _ => cases hv

def distinct : List Nat → Bool
  | [] => true
  | i :: r => !(inB r i) && distinct r
theorem inB_mem : ∀ {l : List Nat} {i : Nat}, inB l i = true ↔ i ∈ l
  | [], i => by simp [inB]
  | a :: l, i => by
    simp only [inB, List.mem_cons]
    cases h : Nat.beq i a with
    | true => simp [Nat.eq_of_beq_eq_true h]
    | false =>
      have : i ≠ a := by intro h'; subst h'; simp at h
      simp [this, inB_mem (l := l)]
theorem distinct_inj : ∀ {l : List Nat}, distinct l = true → ∀ {i j : Nat} {x : Nat}, l[i]? = some x → l[j]? = some x → i = j
  | [], _, i, _, _, h, _ => by simp at h
  | a :: l, hd, i, j, x, hi, hj => by
    simp only [distinct, Bool.and_eq_true, Bool.not_eq_true'] at hd
    have hno : a ∉ l := fun hm => by have := (inB_mem (l := l)).2 hm; rw [this] at hd; simp at hd
    cases i with
    | zero =>
      cases j with
      | zero => rfl
      | succ j =>
        simp at hi hj; subst hi
        exact absurd (List.mem_of_getElem? hj) hno
    | succ i =>
      cases j with
      | zero =>
        simp at hi hj; subst hj
        exact absurd (List.mem_of_getElem? hi) hno
      | succ j => exact congrArg (· + 1) (distinct_inj (l := l) (x := x) hd.2 (by simpa using hi) (by simpa using hj))

theorem FnR.at {P : Program} {f : FuncId} {args0 args : List V} {H0 H : List HE} {res : D} (ids : List Nat) (h : FnR P f args0 H0 res) (hr : Rows H ids H0) (ha : RenL ids args0 args) (hn : distinct ids = true) :
    ACall P f args H fun r H' => r = .d res ∧ H' = H := by
  intro g w vals hw hs hv
  obtain ⟨hl, hrows⟩ := hr.get
  obtain ⟨hla, hren⟩ := ha.get
  let g0 : G := { σ := fun i => (ids[i]?).bind g.σ, τ := fun _ => none, υ := fun _ _ => False, X := fun b => ∃ i : Nat, (ids[i]?).bind g.σ = some b, Pr := g.Pr }
  have hx0 : ∀ b, g0.X b → g.X b := by
    rintro b ⟨i, hi⟩
    rw [Option.bind_eq_some_iff] at hi
    obtain ⟨id, h1, h2⟩ := hi
    have hi0 : i < H0.length := by rw [← hl]; exact (List.getElem?_eq_some_iff.1 h1).1
    obtain ⟨id', c, e1, e2, _, _⟩ := hrows i _ (List.getElem?_eq_getElem hi0)
    rw [h1] at e1; injection e1 with e1; subst e1
    exact hw.blk id _ b e2 h2
  have hblk0 : ∀ (id : Nat) e b, H0[id]? = some e → g0.blk id e b → (ids[id]?).bind g.σ = some b := by
    intro i e b he hb
    obtain ⟨id, c, _, _, rfl, _⟩ := hrows i e he
    exact hb
  have hw0 : WOK g0 w H0 := by
    refine ⟨hw.pr, fun b hb => hw.xs b (hx0 b hb), ?_, ?_, ?_, ?_, ?_, ?_, ?_, fun x hx => ⟨fun h => (hw.kc x hx).1 (hx0 _ h), (hw.kc x hx).2⟩⟩
    · intro i e b he hb
      exact ⟨i, hblk0 i e b he hb⟩
    · intro i i' e e' b he he' hb hb'
      have k1 := hblk0 i e b he hb
      have k2 := hblk0 i' e' b he' hb'
      rw [Option.bind_eq_some_iff] at k1 k2
      obtain ⟨id, p1, p2⟩ := k1
      obtain ⟨id', q1, q2⟩ := k2
      obtain ⟨_, c, r1, r2, _, _⟩ := hrows i e he
      obtain ⟨_, c', s1, s2, _, _⟩ := hrows i' e' he'
      rw [p1] at r1; injection r1 with r1; subst r1
      rw [q1] at s1; injection s1 with s1; subst s1
      have := hw.sep _ _ _ _ b r2 s2 p2 q2
      subst this
      exact distinct_inj hn p1 q1
    · intro i d0 hd0
      obtain ⟨id, c, e1, e2, e3, e4⟩ := hrows i _ hd0
      injection e3 with e3; subst e3
      obtain ⟨b, arr, et, k1, k2, k3, k4, k5⟩ := hw.row id _ e2
      exact ⟨b, arr, et, by simp [g0, e1, k1], k2, k3, fun k x v hx hv => isD_rep (g := g) (g' := g0) (List.all_eq_true.1 e4 x (List.mem_of_getElem? hx)) (fun _ _ => Iff.rfl) (k4 k x v hx hv), k5⟩
    · intro i n e s hd
      obtain ⟨_, _, _, _, e3, _⟩ := hrows i _ hd
      cases e3
    · intro i l e s hd
      obtain ⟨_, _, _, _, e3, _⟩ := hrows i _ hd
      cases e3
    · intro i x hd
      obtain ⟨_, _, _, _, e3, _⟩ := hrows i _ hd
      cases e3
    · intro i hi
      refine ⟨?_, rfl, fun _ h => h⟩
      rcases hi with hi | hi
      · obtain ⟨_, _, _, _, e3, _⟩ := hrows i _ hi
        cases e3
      · have : ids[i]? = none := List.getElem?_eq_none (by omega)
        simp [g0, this]
  have ha0 : ∀ (i : Nat) x v, args0[i]? = some x → vals[i]? = some v → Rep g0 w x v := by
    intro i x v hx hv'
    obtain ⟨u, hu, hxu⟩ := hren i x hx
    have := hv i u v hu hv'
    cases hxu with
    | d y =>
      cases this with
      | d hd => exact .d hd
    | ptr hid =>
      cases this with
      | ptr hb => exact .ptr (by simp [g0, hid, hb])
  refine (h g0 w vals hw0 (by rw [hs, hla]) ha0).mono ?_
  rintro e w' ⟨rv, r, g', H', rfl, hw', he, hr', rfl, hH'⟩
  have keep : ∀ b, b < w.heap.size → ¬ g0.X b → w'.heap[b]? = w.heap[b]? := fun b hb hx => he.keep b hb hx
  let g2 : G := { σ := g.σ, τ := g.τ, υ := g.υ, X := g.X, Pr := g'.Pr }
  have hold : ∀ b o, g'.Pr b o → b < w.heap.size → ¬ g0.X b → g.Pr b o := by
    intro b o hp hb hx
    rcases he.prn b o hp with h1 | h1 | h1
    · exact h1
    · exact (hx h1).elim
    · omega
  have hev : Evo g w g2 w' := {
    same := he.same
    size := he.size
    pr := he.pr
    prn := fun b o hp => by
      rcases he.prn b o hp with h1 | h1 | h1
      · exact .inl h1
      · exact .inr (.inl (hx0 b h1))
      · exact .inr (.inr h1)
    x := fun b hb => .inl hb
    keep := fun b hb hx => keep b hb (fun h0 => hx (hx0 b h0))
    σ := fun _ _ h => h
    τ := fun _ m a cap h => ⟨m, a, cap, h, .inr ⟨rfl, rfl, rfl⟩⟩ }
  have hin : ∀ (i : Nat) e, H0[i]? = some e → H'[i]? = some e := by
    intro i e he'
    have hi : i < H0.length := (List.getElem?_eq_some_iff.1 he').1
    have : (H'.take H0.length)[i]? = some e := by rw [hH']; exact he'
    rwa [List.getElem?_take, if_pos hi] at this
  refine ⟨rv, .d res, g2, H, rfl, ?_, hev, ?_, rfl, rfl⟩
  · refine ⟨hw'.pr, fun b hb => Nat.lt_of_lt_of_le (hw.xs b hb) he.size, hw.blk, hw.sep, ?_, ?_, ?_, ?_, hw.free, hw.kcE hev⟩
    · intro id c hc
      obtain ⟨b, arr, et, h1, h2, h3, h4, h5⟩ := hw.row id c hc
      have hb : b < w.heap.size := hw.xs b (hw.blk id _ b hc h1)
      by_cases hx : g0.X b
      · obtain ⟨i, hi⟩ := hx
        have hi2 := hi
        rw [Option.bind_eq_some_iff] at hi2
        obtain ⟨id', p1, p2⟩ := hi2
        have hi0 : i < H0.length := by rw [← hl]; exact (List.getElem?_eq_some_iff.1 p1).1
        obtain ⟨id'', c', e1, e2, e3, e4⟩ := hrows i _ (List.getElem?_eq_getElem hi0)
        rw [p1] at e1; injection e1 with e1; subst e1
        have := hw.sep _ _ _ _ b hc e2 h1 p2
        subst this
        have hrow := hin i _ ((List.getElem?_eq_getElem hi0).trans (by rw [e3]))
        obtain ⟨b', arr', et', k1, k2, k3, k4, k5⟩ := hw'.row i _ hrow
        have hb' : b' = b := by
          have := he.σ i b (by simpa [g0] using hi)
          rw [this] at k1; injection k1 with k1; exact k1.symm
        subst hb'
        rw [hc] at e2; injection e2 with e2; injection e2 with e2; subst e2
        exact ⟨_, arr', et', h1, k2, k3, fun k x v hx' hv' => isD_rep (g := g') (g' := g2) (List.all_eq_true.1 e4 x (List.mem_of_getElem? hx')) (fun _ _ => Iff.rfl) (k4 k x v hx' hv'), k5⟩
      · exact ⟨b, arr, et, h1, (keep b hb hx).trans h2, h3, fun k x v hx' hv' => (h4 k x v hx' hv').mono hev, fun o hp => h5 o (hold b o hp hb hx)⟩
    · intro id n e s hn'
      obtain ⟨a, cap, h1, h2, h2', h3⟩ := hw.tok id n e s hn'
      refine ⟨a, cap, h1, h2, h2', fun hlt => ?_⟩
      obtain ⟨b, arr, e1, e2, e3, e4⟩ := h3 hlt
      have hgb : g.blk id (.tok n e s) b := by simp [G.blk, h1, e1, hlt]
      have hb : b < w.heap.size := hw.xs _ (hw.blk id _ b hn' hgb)
      have hx : ¬ g0.X b := by
        rintro ⟨i, hi⟩
        rw [Option.bind_eq_some_iff] at hi
        obtain ⟨id', p1, p2⟩ := hi
        have hi0 : i < H0.length := by rw [← hl]; exact (List.getElem?_eq_some_iff.1 p1).1
        obtain ⟨id'', c', k1, k2, _, _⟩ := hrows i _ (List.getElem?_eq_getElem hi0)
        rw [p1] at k1; injection k1 with k1; subst k1
        have := hw.sep _ _ _ _ b hn' k2 hgb p2
        subst this
        rw [hn'] at k2; cases k2
      exact ⟨b, arr, e1, (keep _ hb hx).trans e2, e3, fun o hp => e4 o (hold _ o hp hb hx)⟩
    · intro id l e s hn'
      obtain ⟨a, cap, h1, h2, h2', h3⟩ := hw.lst id l e s hn'
      refine ⟨a, cap, h1, h2, h2', fun hlt => ?_⟩
      obtain ⟨b, arr, e1, e0, e2, e3, e4, e5⟩ := h3 hlt
      have hgb : g.blk id (.lst l e s) b := by simp [G.blk, h1, e1, hlt]
      have hb : b < w.heap.size := hw.xs _ (hw.blk id _ b hn' hgb)
      have hx : ¬ g0.X b := by
        rintro ⟨i, hi⟩
        rw [Option.bind_eq_some_iff] at hi
        obtain ⟨id', p1, p2⟩ := hi
        have hi0 : i < H0.length := by rw [← hl]; exact (List.getElem?_eq_some_iff.1 p1).1
        obtain ⟨id'', c', k1, k2, _, _⟩ := hrows i _ (List.getElem?_eq_getElem hi0)
        rw [p1] at k1; injection k1 with k1; subst k1
        have := hw.sep _ _ _ _ b hn' k2 hgb p2
        subst this
        rw [hn'] at k2; cases k2
      exact ⟨b, arr, e1, e0, (keep _ hb hx).trans e2, e3, fun o hp => e4 o (hold _ o hp hb hx), fun k x v hx hv => (e5 k x v hx hv).mono hev.pr⟩
    · intro id x hn'
      obtain ⟨b, h1, h2, h3, h4⟩ := hw.ob id x hn'
      have hbA : ∀ b, g.blk id (.ob x) b → b < w.heap.size := fun b h => hw.xs _ (hw.blk id _ b hn' h)
      have hxA : ∀ b, g.blk id (.ob x) b → ¬ g0.X b := by
        rintro b hbb ⟨i, hi⟩
        rw [Option.bind_eq_some_iff] at hi
        obtain ⟨id', p1, p2⟩ := hi
        have hi0 : i < H0.length := by rw [← hl]; exact (List.getElem?_eq_some_iff.1 p1).1
        obtain ⟨id'', c', k1, k2, _, _⟩ := hrows i _ (List.getElem?_eq_getElem hi0)
        rw [p1] at k1; injection k1 with k1; subst k1
        have := hw.sep _ _ _ _ b hn' k2 hbb p2
        subst this
        rw [hn'] at k2; cases k2
      exact ⟨b, h1, x.st hev.w rfl rfl (keep _ (hbA b (.inl h1)) (hxA b (.inl h1))) (fun b' hu => keep _ (hbA b' (.inr hu)) (hxA b' (.inr hu))) h2, fun o hp => h3 o (hold _ o hp (hbA b (.inl h1)) (hxA b (.inl h1))), fun b' o hu hp => h4 b' o hu (hold _ o hp (hbA b' (.inr hu)) (hxA b' (.inr hu)))⟩
  · cases hr' with
    | d hd => exact .d hd
end Go.Proofs.Ytkfffaoopcnaoaa.Ab
