/- The plain language into which functions are turned, and the rules of operations stated over it. Functions that read some rows of the heap: what they come to over a small heap they come to over any heap that has these rows. Ways that meet and loops, the entries of the heap numbered anew where they meet. Lists that are made, written in place and read: what operations on them come to. Lists that are given up to be data, and lists that are lent to a call. Texts: pieces of them, bytes as a text, their order. Conditions: none. -/
import Derived.Test.YtindppnanjcoaaaGreatDoorAb10
import Derived.Laws.MakeOwn
import Derived.Laws.BytesArg
section
namespace Go.Proofs.YtindppnanjcoaaaGreatDoor.Ab
open Go

/-- A loop: as many rounds as there is fuel for. -/
def iter {σ τ : Type} : Nat → (σ → Option (σ ⊕ τ)) → σ → Option τ
  | 0, _, _ => none
  | n + 1, f, s => (f s).bind fun y => match y with
    | .inl s' => iter n f s'
    | .inr t => some t
def iterK {σ τ : Type} (n : Nat) (f : σ → Option (σ ⊕ τ)) : σ ⊕ τ → Option τ
  | .inl s => iter n f s
  | .inr t => some t
theorem iter0 {σ τ : Type} {f : σ → Option (σ ⊕ τ)} {s : σ} {t : τ} (h : iter 0 f s = some t) : False := by cases h
theorem iterS {σ τ : Type} {n : Nat} {f : σ → Option (σ ⊕ τ)} {s : σ} {t : τ} (h : iter (n + 1) f s = some t) : ∃ y, f s = some y ∧ iterK n f y = some t := by
  rw [iter, Option.bind_eq_some_iff] at h
  obtain ⟨y, h1, h2⟩ := h
  refine ⟨y, h1, ?_⟩
  cases y <;> exact h2
def ix {α : Type} (l : List α) (k : Int) : Option α := if 0 ≤ k then l[k.toNat]? else none
def app {α : Type} (b : Nat) (l l' : List α) : Option (List α) := if (l.length + l'.length) * b ≤ 140737488355328 ∧ l.length + l'.length ≤ 4611686018427387904 then some (l ++ l') else none
def appS (l l' : List UInt8) : Option (List UInt8) := if l.length + l'.length ≤ 9223372036854775807 then some (l ++ l') else none
def quo (k : IntKind) (a b : Int) : Option Int := if b = 0 then none else some (k.wrap (a.tdiv b))
def rem (b0 b : Int) : Option Int := if b = 0 then none else some (b0.tmod b)
theorem bindE {α β : Type} {o : Option α} {f : α → Option β} {r : β} (h : o.bind f = some r) : ∃ x, o = some x ∧ f x = some r := Option.bind_eq_some_iff.1 h
theorem iteT {α : Type} {c : Prop} [Decidable c] {a b x : α} (hc : c) (h : (if c then a else b) = x) : a = x := by rw [if_pos hc] at h; exact h
theorem iteF {α : Type} {c : Bool} {a b x : α} (hc : c = false) (h : (if c = true then a else b) = x) : b = x := by rw [hc] at h; exact h

/-- How data of a type is held: its cells. -/
structure En {α : Type} (f : α → D) (s : Nat) : Prop where
  sz : ∀ x, (f x).cells.length = s
  one : ∀ x, ∀ y ∈ (f x).cells, y.one = true
theorem En.szL {α : Type} {f : α → D} {s : Nat} (h : En f s) (l : List α) : ∀ x ∈ l.map f, x.cells.length = s := by
  intro x hx; obtain ⟨y, _, rfl⟩ := List.mem_map.1 hx; exact h.sz y
theorem En.oneL {α : Type} {f : α → D} {s : Nat} (h : En f s) (l : List α) : ∀ x ∈ l.map f, ∀ y ∈ x.cells, y.one = true := by
  intro x hx; obtain ⟨y, _, rfl⟩ := List.mem_map.1 hx; exact h.one y

section
variable {P : Program} {ρ : Operand → V} {H : List HE} {ty : TypeId}
variable {x y : Operand} {t u : TypeId} {k : IntKind} {a b c : Int}
theorem op_mulw (hx : As (ρ x) (.int k a)) (hy : As (ρ y) (.int k b)) : OpV P (.binOp .mul t x y u) ty ρ H (.d (.int k (k.wrap (a * b)))) H :=
  OpV.of_val fun g w r hw h => ⟨.int k (k.wrap (a * b)), fun _ _ _ _ => by simp [execOp, hx.int (h x (by simp [Op.operands])), hy.int (h y (by simp [Op.operands])), eqGuard, binOp, Op.intArith], .d (.int _ _)⟩
theorem op_negw (h : As (ρ x) (.int k a)) : OpV P (.unOp .neg t x) ty ρ H (.d (.int k (k.wrap (-a)))) H :=
  OpV.of_val fun g w r hw hx => ⟨.int k (k.wrap (-a)), fun _ _ _ _ => by simp [execOp, h.int (hx x (by simp [Op.operands])), Op.unary, Op.intArith], .d (.int _ _)⟩
theorem op_quoM (hx : As (ρ x) (.int k a)) (hy : As (ρ y) (.int k b)) (hv : quo k a b = some c) : OpV P (.binOp .quo t x y u) ty ρ H (.d (.int k c)) H := by
  unfold quo at hv
  split at hv
  · cases hv
  · rename_i h0
    injection hv with hv; subst hv
    exact OpV.of_val fun g w r hw h => ⟨.int k (k.wrap (a.tdiv b)), fun _ _ _ _ => by simp [execOp, hx.int (h x (by simp [Op.operands])), hy.int (h y (by simp [Op.operands])), eqGuard, binOp, Op.intDiv, h0], .d (.int _ _)⟩
theorem op_remM (hx : As (ρ x) (.int k a)) (hy : As (ρ y) (.int k b)) (hv : rem a b = some c) : OpV P (.binOp .rem t x y u) ty ρ H (.d (.int k c)) H := by
  unfold rem at hv
  split at hv
  · cases hv
  · rename_i h0
    injection hv with hv; subst hv
    exact OpV.of_val fun g w r hw h => ⟨.int k (a.tmod b), fun _ _ _ _ => by simp [execOp, hx.int (h x (by simp [Op.operands])), hy.int (h y (by simp [Op.operands])), eqGuard, binOp, Op.intDiv, h0], .d (.int _ _)⟩
theorem op_addSM {s s' r : List UInt8} (hx : As (ρ x) (.str s)) (hy : As (ρ y) (.str s')) (hv : appS s s' = some r) : OpV P (.binOp .add t x y u) ty ρ H (.d (.str r)) H := by
  unfold appS at hv
  split at hv
  · injection hv with hv; subst hv; exact op_addS hx hy (by assumption)
  · cases hv
theorem ix_nat {α : Type} {l : List α} {v : α} (hv : ix l a = some v) : ∃ i : Nat, a = (i : Int) ∧ l[i]? = some v := by
  unfold ix at hv
  split at hv
  · exact ⟨a.toNat, by omega, hv⟩
  · cases hv
theorem op_indexAddrM {α : Type} {f : α → D} {l : List α} {v : α} {e s bytes : Nat} (hx : As (ρ x) (.sl (l.map f))) (hy : As (ρ y) (.int k a)) (hv : ix l a = some v) (hf : En f s)
    (ht : SlT P t e s bytes) : OpV P (.indexAddr t x y) ty ρ H (.vp (f v).cells 0) H := by
  obtain ⟨i, hi, hv⟩ := ix_nat hv
  exact op_indexAddr hx hy hi (by simp [hv]) ht (hf.sz v)
theorem op_lenM {α : Type} {f : α → D} {l : List α} {e s bytes : Nat} (hx : As (ρ x) (.sl (l.map f))) (ht : SlT P t e s bytes) : OpV P (.call ⟨.builtin .len, #[x], #[t]⟩) ty ρ H (.d (.int .i64 (l.length : Int))) H :=
  op_lenN hx (by simp) ht
theorem op_appendM {α : Type} {f : α → D} {l l' r : List α} {e s bytes id n : Nat} (ht : SlT P t e s bytes) (hx : Is (ρ x) (.tk id (l.map f))) (hy : As (ρ y) (.sl (l'.map f))) (hH : H[id]? = some (.tok n e s))
    (hn : n = l.length) (hf : En f s) (hv : app bytes l l' = some r) : OpV P (.call ⟨.builtin .append, #[x, y], #[t, t]⟩) ty ρ H (.tk id (r.map f)) (H.set id (.tok r.length e s)) := by
  unfold app at hv
  split at hv
  · rename_i h
    injection hv with hv; subst hv
    have := op_append (ty := ty) ht hx hy (by rw [hH, hn, List.length_map]) (by rw [← List.map_append]; exact hf.szL _) (by rw [← List.map_append]; exact hf.oneL _) (by simp only [List.length_append, List.length_map]; exact h.1) (by simp only [List.length_append, List.length_map]; exact h.2)
    rw [← List.map_append, List.length_map] at this
    exact this
  · cases hv
end

theorem En.int {k : IntKind} : En (D.int k) 1 := ⟨fun _ => rfl, fun x y hy => by simp only [D.cells, List.mem_singleton] at hy; subst hy; rfl⟩
theorem En.i : En D.i 1 := En.int
theorem En.str : En D.str 1 := ⟨fun _ => rfl, fun x y hy => by simp only [D.cells, List.mem_singleton] at hy; subst hy; rfl⟩
theorem En.bool : En D.bool 1 := ⟨fun _ => rfl, fun x y hy => by simp only [D.cells, List.mem_singleton] at hy; subst hy; rfl⟩
theorem En.sl {α : Type} {f : α → D} : En (fun l : List α => D.sl (l.map f)) 1 := ⟨fun _ => rfl, fun x y hy => by simp only [D.cells, List.mem_singleton] at hy; subst hy; rfl⟩

end Go.Proofs.YtindppnanjcoaaaGreatDoor.Ab
end
section
namespace Go.Proofs.YtindppnanjcoaaaGreatDoor.Ab
open Go

/-- Data out, and the rows that came in as they were. -/
def FnR (P : Program) (f : FuncId) (args : List V) (H : List HE) (res : D) : Prop := ACall P f args H fun r H' => r = .d res ∧ H'.take H.length = H

/-- Values of a small heap, and what they are in a greater one: row i is row ids[i]. -/
inductive Ren (ids : List Nat) : V → V → Prop
  | d (x : D) : Ren ids (.d x) (.d x)
  | ptr {i id off : Nat} : ids[i]? = some id → Ren ids (.ptr i off) (.ptr id off)
inductive RenL (ids : List Nat) : List V → List V → Prop
  | nil : RenL ids [] []
  | cons {v u : V} {l m : List V} : Ren ids v u → RenL ids l m → RenL ids (v :: l) (u :: m)
theorem RenL.get {ids : List Nat} {l m : List V} (h : RenL ids l m) : l.length = m.length ∧ ∀ (i : Nat) u, l[i]? = some u → ∃ v, m[i]? = some v ∧ Ren ids u v := by
  induction h with
  | nil => simp
  | cons hv _ ih =>
    refine ⟨by simp [ih.1], fun i u hu => ?_⟩
    cases i with
    | zero => simp only [List.getElem?_cons_zero, Option.some.injEq] at hu; subst hu; exact ⟨_, rfl, hv⟩
    | succ i => exact ih.2 i u (by simpa using hu)

def V.isD : V → Bool
  | .d _ | .fn _ [] => true
  | _ => false
/-- The rows of the small heap, found in the greater one. -/
inductive Rows (H : List HE) : List Nat → List HE → Prop
  | nil : Rows H [] []
  | cons {id : Nat} {c : List V} {ids : List Nat} {H0 : List HE} : H[id]? = some (.row c) → c.all V.isD = true → Rows H ids H0 → Rows H (id :: ids) (.row c :: H0)
theorem Rows.get {H : List HE} {ids : List Nat} {H0 : List HE} (h : Rows H ids H0) : ids.length = H0.length ∧ ∀ (i : Nat) e, H0[i]? = some e → ∃ id c, ids[i]? = some id ∧ H[id]? = some (.row c) ∧ e = .row c ∧ c.all V.isD = true := by
  induction h with
  | nil => simp
  | cons h1 h2 _ ih =>
    refine ⟨by simp [ih.1], fun i e he => ?_⟩
    cases i with
    | zero => simp only [List.getElem?_cons_zero, Option.some.injEq] at he; subst he; exact ⟨_, _, rfl, h1, rfl, h2⟩
    | succ i => exact ih.2 i e (by simpa using he)
theorem isD_rep {g g' : G} {w : World} {v : V} {r : Value} (hv : v.isD = true) (hp : ∀ b o, g.Pr b o ↔ g'.Pr b o) (h : Rep g w v r) : Rep g' w v r := by
  cases v with
  | d x =>
    cases h with
    | d hd =>
      have : g.Pr = g'.Pr := by funext b o; exact propext (hp b o)
      exact .d (this ▸ hd)
  | fn f caps =>
    cases caps with
    | nil =>
      cases h with
      | fn hs hc => exact .fn hs (fun i x v hx => by simp at hx)
    | cons a l => simp [V.isD] at hv
  | _ => cases hv

def distinct : List Nat → Bool
  | [] => true
  | i :: r => !(inB r i) && distinct r
theorem inB_mem : ∀ {l : List Nat} {i : Nat}, inB l i = true ↔ i ∈ l
  | [], i => by simp [inB]
  | a :: l, i => by
    simp only [inB, List.mem_cons]
    cases h : Nat.beq i a with
    | true => simp [Nat.eq_of_beq_eq_true h]
    | false =>
      have : i ≠ a := by intro h'; subst h'; simp at h
      simp [this, inB_mem (l := l)]
theorem distinct_inj : ∀ {l : List Nat}, distinct l = true → ∀ {i j : Nat} {x : Nat}, l[i]? = some x → l[j]? = some x → i = j
  | [], _, i, _, _, h, _ => by simp at h
  | a :: l, hd, i, j, x, hi, hj => by
    simp only [distinct, Bool.and_eq_true, Bool.not_eq_true'] at hd
    have hno : a ∉ l := fun hm => by have := (inB_mem (l := l)).2 hm; rw [this] at hd; simp at hd
    cases i with
    | zero =>
      cases j with
      | zero => rfl
      | succ j =>
        simp at hi hj; subst hi
        exact absurd (List.mem_of_getElem? hj) hno
    | succ i =>
      cases j with
      | zero =>
        simp at hi hj; subst hj
        exact absurd (List.mem_of_getElem? hi) hno
      | succ j => exact congrArg (· + 1) (distinct_inj (l := l) (x := x) hd.2 (by simpa using hi) (by simpa using hj))

theorem FnR.at {P : Program} {f : FuncId} {args0 args : List V} {H0 H : List HE} {res : D} (ids : List Nat) (h : FnR P f args0 H0 res) (hr : Rows H ids H0) (ha : RenL ids args0 args) (hn : distinct ids = true) :
    ACall P f args H fun r H' => r = .d res ∧ H' = H := by
  intro g w vals hw hs hv
  obtain ⟨hl, hrows⟩ := hr.get
  obtain ⟨hla, hren⟩ := ha.get
  let g0 : G := { σ := fun i => (ids[i]?).bind g.σ, τ := fun _ => none, υ := fun _ _ => False, X := fun b => ∃ i : Nat, (ids[i]?).bind g.σ = some b, Pr := g.Pr }
  have hx0 : ∀ b, g0.X b → g.X b := by
    rintro b ⟨i, hi⟩
    rw [Option.bind_eq_some_iff] at hi
    obtain ⟨id, h1, h2⟩ := hi
    have hi0 : i < H0.length := by rw [← hl]; exact (List.getElem?_eq_some_iff.1 h1).1
    obtain ⟨id', c, e1, e2, _, _⟩ := hrows i _ (List.getElem?_eq_getElem hi0)
    rw [h1] at e1; injection e1 with e1; subst e1
    exact hw.blk id _ b e2 h2
  have hblk0 : ∀ (id : Nat) e b, H0[id]? = some e → g0.blk id e b → (ids[id]?).bind g.σ = some b := by
    intro i e b he hb
    obtain ⟨id, c, _, _, rfl, _⟩ := hrows i e he
    exact hb
  have hw0 : WOK g0 w H0 := by
    refine ⟨hw.pr, fun b hb => hw.xs b (hx0 b hb), ?_, ?_, ?_, ?_, ?_, ?_, ?_, fun x hx => ⟨fun h => (hw.kc x hx).1 (hx0 _ h), (hw.kc x hx).2⟩⟩
    · intro i e b he hb
      exact ⟨i, hblk0 i e b he hb⟩
    · intro i i' e e' b he he' hb hb'
      have k1 := hblk0 i e b he hb
      have k2 := hblk0 i' e' b he' hb'
      rw [Option.bind_eq_some_iff] at k1 k2
      obtain ⟨id, p1, p2⟩ := k1
      obtain ⟨id', q1, q2⟩ := k2
      obtain ⟨_, c, r1, r2, _, _⟩ := hrows i e he
      obtain ⟨_, c', s1, s2, _, _⟩ := hrows i' e' he'
      rw [p1] at r1; injection r1 with r1; subst r1
      rw [q1] at s1; injection s1 with s1; subst s1
      have := hw.sep _ _ _ _ b r2 s2 p2 q2
      subst this
      exact distinct_inj hn p1 q1
    · intro i d0 hd0
      obtain ⟨id, c, e1, e2, e3, e4⟩ := hrows i _ hd0
      injection e3 with e3; subst e3
      obtain ⟨b, arr, et, k1, k2, k3, k4, k5⟩ := hw.row id _ e2
      exact ⟨b, arr, et, by simp [g0, e1, k1], k2, k3, fun k x v hx hv => isD_rep (g := g) (g' := g0) (List.all_eq_true.1 e4 x (List.mem_of_getElem? hx)) (fun _ _ => Iff.rfl) (k4 k x v hx hv), k5⟩
    · intro i n e s hd
      obtain ⟨_, _, _, _, e3, _⟩ := hrows i _ hd
      cases e3
    · intro i l e s hd
      obtain ⟨_, _, _, _, e3, _⟩ := hrows i _ hd
      cases e3
    · intro i x hd
      obtain ⟨_, _, _, _, e3, _⟩ := hrows i _ hd
      cases e3
    · intro i hi
      refine ⟨?_, rfl, fun _ h => h⟩
      rcases hi with hi | hi
      · obtain ⟨_, _, _, _, e3, _⟩ := hrows i _ hi
        cases e3
      · have : ids[i]? = none := List.getElem?_eq_none (by omega)
        simp [g0, this]
  have ha0 : ∀ (i : Nat) x v, args0[i]? = some x → vals[i]? = some v → Rep g0 w x v := by
    intro i x v hx hv'
    obtain ⟨u, hu, hxu⟩ := hren i x hx
    have := hv i u v hu hv'
    cases hxu with
    | d y =>
      cases this with
      | d hd => exact .d hd
    | ptr hid =>
      cases this with
      | ptr hb => exact .ptr (by simp [g0, hid, hb])
  refine (h g0 w vals hw0 (by rw [hs, hla]) ha0).mono ?_
  rintro e w' ⟨rv, r, g', H', rfl, hw', he, hr', rfl, hH'⟩
  have keep : ∀ b, b < w.heap.size → ¬ g0.X b → w'.heap[b]? = w.heap[b]? := fun b hb hx => he.keep b hb hx
  let g2 : G := { σ := g.σ, τ := g.τ, υ := g.υ, X := g.X, Pr := g'.Pr }
  have hold : ∀ b o, g'.Pr b o → b < w.heap.size → ¬ g0.X b → g.Pr b o := by
    intro b o hp hb hx
    rcases he.prn b o hp with h1 | h1 | h1
    · exact h1
    · exact (hx h1).elim
    · omega
  have hev : Evo g w g2 w' := {
    same := he.same
    size := he.size
    pr := he.pr
    prn := fun b o hp => by
      rcases he.prn b o hp with h1 | h1 | h1
      · exact .inl h1
      · exact .inr (.inl (hx0 b h1))
      · exact .inr (.inr h1)
    x := fun b hb => .inl hb
    keep := fun b hb hx => keep b hb (fun h0 => hx (hx0 b h0))
    σ := fun _ _ h => h
    τ := fun _ m a cap h => ⟨m, a, cap, h, .inr ⟨rfl, rfl, rfl⟩⟩ }
  have hin : ∀ (i : Nat) e, H0[i]? = some e → H'[i]? = some e := by
    intro i e he'
    have hi : i < H0.length := (List.getElem?_eq_some_iff.1 he').1
    have : (H'.take H0.length)[i]? = some e := by rw [hH']; exact he'
    rwa [List.getElem?_take, if_pos hi] at this
  refine ⟨rv, .d res, g2, H, rfl, ?_, hev, ?_, rfl, rfl⟩
  · refine ⟨hw'.pr, fun b hb => Nat.lt_of_lt_of_le (hw.xs b hb) he.size, hw.blk, hw.sep, ?_, ?_, ?_, ?_, hw.free, hw.kcE hev⟩
    · intro id c hc
      obtain ⟨b, arr, et, h1, h2, h3, h4, h5⟩ := hw.row id c hc
      have hb : b < w.heap.size := hw.xs b (hw.blk id _ b hc h1)
      by_cases hx : g0.X b
      · obtain ⟨i, hi⟩ := hx
        have hi2 := hi
        rw [Option.bind_eq_some_iff] at hi2
        obtain ⟨id', p1, p2⟩ := hi2
        have hi0 : i < H0.length := by rw [← hl]; exact (List.getElem?_eq_some_iff.1 p1).1
        obtain ⟨id'', c', e1, e2, e3, e4⟩ := hrows i _ (List.getElem?_eq_getElem hi0)
        rw [p1] at e1; injection e1 with e1; subst e1
        have := hw.sep _ _ _ _ b hc e2 h1 p2
        subst this
        have hrow := hin i _ ((List.getElem?_eq_getElem hi0).trans (by rw [e3]))
        obtain ⟨b', arr', et', k1, k2, k3, k4, k5⟩ := hw'.row i _ hrow
        have hb' : b' = b := by
          have := he.σ i b (by simpa [g0] using hi)
          rw [this] at k1; injection k1 with k1; exact k1.symm
        subst hb'
        rw [hc] at e2; injection e2 with e2; injection e2 with e2; subst e2
        exact ⟨_, arr', et', h1, k2, k3, fun k x v hx' hv' => isD_rep (g := g') (g' := g2) (List.all_eq_true.1 e4 x (List.mem_of_getElem? hx')) (fun _ _ => Iff.rfl) (k4 k x v hx' hv'), k5⟩
      · exact ⟨b, arr, et, h1, (keep b hb hx).trans h2, h3, fun k x v hx' hv' => (h4 k x v hx' hv').mono hev, fun o hp => h5 o (hold b o hp hb hx)⟩
    · intro id n e s hn'
      obtain ⟨a, cap, h1, h2, h2', h3⟩ := hw.tok id n e s hn'
      refine ⟨a, cap, h1, h2, h2', fun hlt => ?_⟩
      obtain ⟨b, arr, e1, e2, e3, e4⟩ := h3 hlt
      have hgb : g.blk id (.tok n e s) b := by simp [G.blk, h1, e1, hlt]
      have hb : b < w.heap.size := hw.xs _ (hw.blk id _ b hn' hgb)
      have hx : ¬ g0.X b := by
        rintro ⟨i, hi⟩
        rw [Option.bind_eq_some_iff] at hi
        obtain ⟨id', p1, p2⟩ := hi
        have hi0 : i < H0.length := by rw [← hl]; exact (List.getElem?_eq_some_iff.1 p1).1
        obtain ⟨id'', c', k1, k2, _, _⟩ := hrows i _ (List.getElem?_eq_getElem hi0)
        rw [p1] at k1; injection k1 with k1; subst k1
        have := hw.sep _ _ _ _ b hn' k2 hgb p2
        subst this
        rw [hn'] at k2; cases k2
      exact ⟨b, arr, e1, (keep _ hb hx).trans e2, e3, fun o hp => e4 o (hold _ o hp hb hx)⟩
    · intro id l e s hn'
      obtain ⟨a, cap, h1, h2, h2', h3⟩ := hw.lst id l e s hn'
      refine ⟨a, cap, h1, h2, h2', fun hlt => ?_⟩
      obtain ⟨b, arr, e1, e0, e2, e3, e4, e5⟩ := h3 hlt
      have hgb : g.blk id (.lst l e s) b := by simp [G.blk, h1, e1, hlt]
      have hb : b < w.heap.size := hw.xs _ (hw.blk id _ b hn' hgb)
      have hx : ¬ g0.X b := by
        rintro ⟨i, hi⟩
        rw [Option.bind_eq_some_iff] at hi
        obtain ⟨id', p1, p2⟩ := hi
        have hi0 : i < H0.length := by rw [← hl]; exact (List.getElem?_eq_some_iff.1 p1).1
        obtain ⟨id'', c', k1, k2, _, _⟩ := hrows i _ (List.getElem?_eq_getElem hi0)
        rw [p1] at k1; injection k1 with k1; subst k1
        have := hw.sep _ _ _ _ b hn' k2 hgb p2
        subst this
        rw [hn'] at k2; cases k2
      exact ⟨b, arr, e1, e0, (keep _ hb hx).trans e2, e3, fun o hp => e4 o (hold _ o hp hb hx), fun k x v hx hv => (e5 k x v hx hv).mono hev.pr⟩
    · intro id x hn'
      obtain ⟨b, h1, h2, h3, h4⟩ := hw.ob id x hn'
      have hbA : ∀ b, g.blk id (.ob x) b → b < w.heap.size := fun b h => hw.xs _ (hw.blk id _ b hn' h)
      have hxA : ∀ b, g.blk id (.ob x) b → ¬ g0.X b := by
        rintro b hbb ⟨i, hi⟩
        rw [Option.bind_eq_some_iff] at hi
        obtain ⟨id', p1, p2⟩ := hi
        have hi0 : i < H0.length := by rw [← hl]; exact (List.getElem?_eq_some_iff.1 p1).1
        obtain ⟨id'', c', k1, k2, _, _⟩ := hrows i _ (List.getElem?_eq_getElem hi0)
        rw [p1] at k1; injection k1 with k1; subst k1
        have := hw.sep _ _ _ _ b hn' k2 hbb p2
        subst this
        rw [hn'] at k2; cases k2
      exact ⟨b, h1, x.st hev.w rfl rfl (keep _ (hbA b (.inl h1)) (hxA b (.inl h1))) (fun b' hu => keep _ (hbA b' (.inr hu)) (hxA b' (.inr hu))) h2, fun o hp => h3 o (hold _ o hp (hbA b (.inl h1)) (hxA b (.inl h1))), fun b' o hu hp => h4 b' o hu (hold _ o hp (hbA b' (.inr hu)) (hxA b' (.inr hu)))⟩
  · cases hr' with
    | d hd => exact .d hd
end Go.Proofs.YtindppnanjcoaaaGreatDoor.Ab
end
section
namespace Go.Proofs.YtindppnanjcoaaaGreatDoor.Ab
open Go

/-- Entry i of the new heap is entry S[i] of the old one: what an old value is under the new numbers, perhaps known less of. -/
inductive LeR (S : List Nat) : V → V → Prop
  | any {v : V} : LeR S v .any
  | d {v : V} {x : D} : v.asD = some x → LeR S v (.d x)
  | ptr {i id off : Nat} : S[i]? = some id → LeR S (.ptr id off) (.ptr i off)
  | mp {i id : Nat} : S[i]? = some id → LeR S (.mp id) (.mp i)
  | tk {i id : Nat} {l : List D} : S[i]? = some id → LeR S (.tk id l) (.tk i l)
  | hs {i id off len len' s : Nat} : S[i]? = some id → len = len' → LeR S (.hs id off len s) (.hs i off len' s)
  | ex {l : List D} : LeR S (.ex l) (.ex l)
  | nilEx : LeR S .nil (.ex [])
  | nil : LeR S .nil .nil
  | vp {c : List D} {off : Nat} : LeR S (.vp c off) (.vp c off)
  | fn0 {f : Go.Fn} : LeR S (.fn f []) (.fn f [])
  | fn1 {f : Go.Fn} {v u : V} : LeR S v u → LeR S (.fn f [v]) (.fn f [u])
  | fn2 {f : Go.Fn} {v u v' u' : V} : LeR S v u → LeR S v' u' → LeR S (.fn f [v, v']) (.fn f [u, u'])
  | fn3 {f : Go.Fn} {v u v' u' v2 u2 : V} : LeR S v u → LeR S v' u' → LeR S v2 u2 → LeR S (.fn f [v, v', v2]) (.fn f [u, u', u2])

def G.ren (g : G) (S : List Nat) : G := { g with σ := fun i => (S[i]?).bind g.σ, τ := fun i => (S[i]?).bind g.τ, υ := fun i b => ∃ j, S[i]? = some j ∧ g.υ j b }

theorem Rep.fnOf {g g' : G} {w : World} {f : Go.Fn} {l m : List V} {r : Value} (hl : l.length = m.length) (h : ∀ (i : Nat) v u, l[i]? = some v → m[i]? = some u → ∀ r, Rep g w v r → Rep g' w u r) (hr : Rep g w (.fn f l) r) : Rep g' w (.fn f m) r := by
  cases hr with
  | fn hs hc =>
    refine .fn (by omega) (fun i u r hu hr => ?_)
    have hi : i < l.length := by rw [hl]; exact (List.getElem?_eq_some_iff.1 hu).1
    exact h i _ u (List.getElem?_eq_getElem hi) hu r (hc i _ r (List.getElem?_eq_getElem hi) hr)

theorem LeR.rep {g : G} {w : World} {S : List Nat} {v u : V} (h : LeR S v u) : ∀ {r : Value}, Rep g w v r → Rep (g.ren S) w u r := by
  induction h with
  | any => intro r _; exact .any
  | d hx => intro r hr; exact .d (hr.asD hx)
  | ptr hi =>
    intro r hr
    cases hr with
    | ptr hb => exact .ptr (by simp [G.ren, hi, hb])
  | mp hi =>
    intro r hr
    cases hr with
    | mp hb => exact .mp (by simp [G.ren, hi, hb])
  | tk hi =>
    intro r hr
    cases hr with
    | tk hd ht hle heq => exact .tk hd (by simp [G.ren, hi]; exact ht) hle heq
  | hs hi hl =>
    intro r hr
    subst hl
    cases hr with
    | hs hb hc => exact .hs (by simp [G.ren, hi]; exact hb) hc
  | ex =>
    intro r hr
    cases hr with
    | ex hd => exact .ex hd
  | nilEx =>
    intro r hr
    have := hr.nilEx
    cases this with
    | ex hd => exact .ex hd
  | nil =>
    intro r hr
    cases hr
    exact .nil
  | vp =>
    intro r hr
    cases hr with
    | vp h1 h2 => exact .vp h1 h2
  | fn0 => intro r hr; exact Rep.fnOf (g' := g.ren S) rfl (fun i v u hv => by simp at hv) hr
  | fn1 _ h1 =>
    intro r hr
    refine Rep.fnOf (g' := g.ren S) ?_ (fun i v u hv hu r hr => ?_) hr; rfl
    match i, hv, hu with
    | 0, hv, hu => simp at hv hu; subst hv; subst hu; exact h1 hr
  | fn2 _ _ h1 h2 =>
    intro r hr
    refine Rep.fnOf (g' := g.ren S) ?_ (fun i v u hv hu r hr => ?_) hr; rfl
    match i, hv, hu with
    | 0, hv, hu => simp at hv hu; subst hv; subst hu; exact h1 hr
    | 1, hv, hu => simp at hv hu; subst hv; subst hu; exact h2 hr
  | fn3 _ _ _ h1 h2 h3 =>
    intro r hr
    refine Rep.fnOf (g' := g.ren S) ?_ (fun i v u hv hu r hr => ?_) hr; rfl
    match i, hv, hu with
    | 0, hv, hu => simp at hv hu; subst hv; subst hu; exact h1 hr
    | 1, hv, hu => simp at hv hu; subst hv; subst hu; exact h2 hr
    | 2, hv, hu => simp at hv hu; subst hv; subst hu; exact h3 hr

inductive LeRC (S : List Nat) : List V → List V → Prop
  | nil : LeRC S [] []
  | cons {v u : V} {c d : List V} : LeR S v u → LeRC S c d → LeRC S (v :: c) (u :: d)
  | data {l : List D} : LeRC S (l.map .d) (l.map .d)
theorem LeRC.get {S : List Nat} {c d : List V} (h : LeRC S c d) : c.length = d.length ∧ ∀ (i : Nat) u, d[i]? = some u → ∃ v, c[i]? = some v ∧ LeR S v u := by
  induction h with
  | nil => simp
  | cons hv _ ih =>
    refine ⟨by simp [ih.1], fun i u hu => ?_⟩
    cases i with
    | zero => simp only [List.getElem?_cons_zero, Option.some.injEq] at hu; subst hu; exact ⟨_, rfl, hv⟩
    | succ i => exact ih.2 i u (by simpa using hu)
  | data =>
    refine ⟨rfl, fun i u hu => ⟨u, hu, ?_⟩⟩
    simp only [List.getElem?_map, Option.map_eq_some_iff] at hu
    obtain ⟨x, _, rfl⟩ := hu
    exact .d rfl
/-- What is known of an object, the entries numbered anew. -/
def ObR (S : List Nat) (x y : OB) : Prop := ∀ {g : G} {w : World} {i j b : Nat}, S[i]? = some j → x.φ g w j b → y.φ (g.ren S) w i b
inductive LeRH (S : List Nat) (H : List HE) : List Nat → List HE → Prop
  | nil : LeRH S H [] []
  | dead {i : Nat} {T : List Nat} {K : List HE} : LeRH S H T K → LeRH S H (i :: T) (.dead :: K)
  | row {i : Nat} {T : List Nat} {K : List HE} {c d : List V} : H[i]? = some (.row c) → LeRC S c d → LeRH S H T K → LeRH S H (i :: T) (.row d :: K)
  | tok {i n s : Nat} {e : TypeId} {T : List Nat} {K : List HE} : H[i]? = some (.tok n e s) → LeRH S H T K → LeRH S H (i :: T) (.tok n e s :: K)
  | lst {i s : Nat} {l : List D} {e : TypeId} {T : List Nat} {K : List HE} : H[i]? = some (.lst l e s) → LeRH S H T K → LeRH S H (i :: T) (.lst l e s :: K)
  | ob {i : Nat} {x y : OB} {T : List Nat} {K : List HE} : H[i]? = some (.ob x) → ObR S x y → LeRH S H T K → LeRH S H (i :: T) (.ob y :: K)
theorem LeRH.get {S : List Nat} {H K : List HE} {T : List Nat} (h : LeRH S H T K) : T.length = K.length ∧ ∀ (i : Nat) e, K[i]? = some e → ∃ j, T[i]? = some j ∧
    (e = .dead ∨ (∃ c d, H[j]? = some (.row c) ∧ e = .row d ∧ LeRC S c d) ∨ (∃ n t s, H[j]? = some (.tok n t s) ∧ e = .tok n t s) ∨ (∃ l t s, H[j]? = some (.lst l t s) ∧ e = .lst l t s) ∨ (∃ x y, H[j]? = some (.ob x) ∧ e = .ob y ∧ ObR S x y)) := by
  induction h with
  | nil => simp
  | @dead j _ _ _ ih =>
    refine ⟨by simp [ih.1], fun i u hu => ?_⟩
    cases i with
    | zero => simp only [List.getElem?_cons_zero, Option.some.injEq] at hu; subst hu; exact ⟨j, rfl, .inl rfl⟩
    | succ i => exact ih.2 i u (by simpa using hu)
  | @row j _ _ c d h1 h2 _ ih =>
    refine ⟨by simp [ih.1], fun i u hu => ?_⟩
    cases i with
    | zero => simp only [List.getElem?_cons_zero, Option.some.injEq] at hu; subst hu; exact ⟨j, rfl, .inr (.inl ⟨c, d, h1, rfl, h2⟩)⟩
    | succ i => exact ih.2 i u (by simpa using hu)
  | @tok j n s e _ _ h1 _ ih =>
    refine ⟨by simp [ih.1], fun i u hu => ?_⟩
    cases i with
    | zero => simp only [List.getElem?_cons_zero, Option.some.injEq] at hu; subst hu; exact ⟨j, rfl, .inr (.inr (.inl ⟨n, e, s, h1, rfl⟩))⟩
    | succ i => exact ih.2 i u (by simpa using hu)
  | @lst j s l e _ _ h1 _ ih =>
    refine ⟨by simp [ih.1], fun i u hu => ?_⟩
    cases i with
    | zero => simp only [List.getElem?_cons_zero, Option.some.injEq] at hu; subst hu; exact ⟨j, rfl, .inr (.inr (.inr (.inl ⟨l, e, s, h1, rfl⟩)))⟩
    | succ i => exact ih.2 i u (by simpa using hu)
  | @ob j x y _ _ h1 h2 _ ih =>
    refine ⟨by simp [ih.1], fun i u hu => ?_⟩
    cases i with
    | zero => simp only [List.getElem?_cons_zero, Option.some.injEq] at hu; subst hu; exact ⟨j, rfl, .inr (.inr (.inr (.inr ⟨x, y, h1, rfl, h2⟩)))⟩
    | succ i => exact ih.2 i u (by simpa using hu)

theorem WOK.ren {g : G} {w : World} {S : List Nat} {H K : List HE} (hw : WOK g w H) (h : LeRH S H S K) (hd : distinct S = true) : WOK (g.ren S) w K := by
  obtain ⟨hl, hg⟩ := h.get
  have hblk : ∀ (i : Nat) e b, K[i]? = some e → (g.ren S).blk i e b → ∃ j e0, S[i]? = some j ∧ H[j]? = some e0 ∧ g.blk j e0 b := by
    intro i e b he hb
    obtain ⟨j, hj, h1⟩ := hg i e he
    rcases h1 with rfl | ⟨c, d, h1, rfl, _⟩ | ⟨n, t, s, h1, rfl⟩ | ⟨n, t, s, h1, rfl⟩ | ⟨x, y, h1, rfl, _⟩
    · simp [G.blk] at hb
    · exact ⟨j, _, hj, h1, by simpa [G.blk, G.ren, hj] using hb⟩
    · exact ⟨j, _, hj, h1, by simpa [G.blk, G.ren, hj] using hb⟩
    · exact ⟨j, _, hj, h1, by simpa [G.blk, G.ren, hj] using hb⟩
    · exact ⟨j, _, hj, h1, by simpa [G.blk, G.ren, hj] using hb⟩
  refine ⟨hw.pr, hw.xs, ?_, ?_, ?_, ?_, ?_, ?_, ?_, hw.kc⟩
  · intro i e b he hb
    obtain ⟨j, e0, _, h0, h1⟩ := hblk i e b he hb
    exact hw.blk j e0 b h0 h1
  · intro i i' e e' b he he' hb hb'
    obtain ⟨j, e0, h00, h0, h1⟩ := hblk i e b he hb
    obtain ⟨j', e1, h22, h2, h3⟩ := hblk i' e' b he' hb'
    have := hw.sep j j' e0 e1 b h0 h2 h1 h3
    subst this
    exact distinct_inj hd h00 h22
  · intro i d hd
    obtain ⟨j, hj, h1⟩ := hg i _ hd
    rcases h1 with h1 | ⟨c, d', h1, h2, h3⟩ | ⟨n, t, s, _, h2⟩ | ⟨n, t, s, _, h2⟩ | ⟨_, _, _, h2, _⟩
    rotate_left 4
    · cases h2
    · cases h1
    · injection h2 with h2; subst h2
      obtain ⟨b, arr, et, e1, e2, e3, e4, e5⟩ := hw.row j c h1
      obtain ⟨k1, k2⟩ := h3.get
      refine ⟨b, arr, et, by simp [G.ren, hj, e1], e2, by omega, fun k x v hx hv => ?_, e5⟩
      obtain ⟨y, hy, hle⟩ := k2 k x hx
      exact hle.rep (e4 k y v hy hv)
    · cases h2
    · cases h2
  · intro i n e s hd
    obtain ⟨j, hj, h1⟩ := hg i _ hd
    rcases h1 with h1 | ⟨c, d', _, h2, _⟩ | ⟨n', t, s', h1, h2⟩ | ⟨n', t, s', h1, h2⟩ | ⟨_, _, _, h2, _⟩
    rotate_left 4
    · cases h2
    · cases h1
    · cases h2
    · injection h2 with h2 h3 h4; subst h2; subst h3; subst h4
      obtain ⟨a, cap, k1, k2, k3, k4⟩ := hw.tok j n e s h1
      exact ⟨a, cap, by simp [G.ren, hj, k1], k2, k3, k4⟩
    · cases h2
  · intro i l e s hd
    obtain ⟨j, hj, h1⟩ := hg i _ hd
    rcases h1 with h1 | ⟨c, d', _, h2, _⟩ | ⟨n', t, s', h1, h2⟩ | ⟨n', t, s', h1, h2⟩ | ⟨_, _, _, h2, _⟩
    rotate_left 4
    · cases h2
    · cases h1
    · cases h2
    · cases h2
    · injection h2 with h2 h3 h4; subst h2; subst h3; subst h4
      obtain ⟨a, cap, k1, k2, k3, k4⟩ := hw.lst j l e s h1
      refine ⟨a, cap, by simp [G.ren, hj, k1], k2, k3, fun hlt => ?_⟩
      obtain ⟨b, arr, q1, q0, q2⟩ := k4 hlt
      exact ⟨b, arr, q1, by simp [G.ren, hj, q0], q2⟩
  · intro i x hd
    obtain ⟨j, hj, h1⟩ := hg i _ hd
    rcases h1 with h1 | ⟨c, d', _, h2, _⟩ | ⟨n', t, s', h1, h2⟩ | ⟨n', t, s', h1, h2⟩ | ⟨y, z, h1, h2, h3⟩
    · cases h1
    · cases h2
    · cases h2
    · cases h2
    · injection h2 with h2; subst h2
      obtain ⟨b, q1, q2, q3, q4⟩ := hw.ob j y h1
      exact ⟨b, by simp [G.ren, hj, q1], h3 hj q2, q3, fun b' o hu hp => by
        obtain ⟨j', k1, k2⟩ := hu
        rw [hj] at k1; injection k1 with k1; subst k1
        exact q4 b' o k2 hp⟩
  · intro i hi
    have : S[i]? = none := by
      rcases hi with hi | hi
      · obtain ⟨j, hj, h1⟩ := hg i _ hi
        rcases h1 with h1 | ⟨c, d', _, h2, _⟩ | ⟨n', t, s', h1, h2⟩ | ⟨n', t, s', h1, h2⟩ | ⟨_, _, _, h2, _⟩
        · cases h1
        · cases h2
        · cases h2
        · cases h2
        · cases h2
      · exact List.getElem?_eq_none (by omega)
    exact ⟨by simp [G.ren, this], by simp [G.ren, this], fun b hu => by obtain ⟨j, k1, _⟩ := hu; rw [this] at k1; cases k1⟩

/-- The first n numbers stay. -/
def idPre : Nat → List Nat → Bool
  | 0, _ => true
  | n + 1, S => (match S[n]? with | some j => Nat.beq j n | none => false) && idPre n S
theorem idPre_get : ∀ {n : Nat} {S : List Nat}, idPre n S = true → ∀ {i : Nat}, i < n → S[i]? = some i
  | n + 1, S, h, i, hi => by
    simp only [idPre, Bool.and_eq_true] at h
    by_cases hin : i = n
    · subst hin
      cases hs : S[i]? with
      | none => rw [hs] at h; simp at h
      | some j => rw [hs] at h; rw [Nat.eq_of_beq_eq_true h.1]
    · exact idPre_get h.2 (by omega)
def okV1 (S : List Nat) : V → Bool
  | .ptr id _ | .tk id _ | .hs id _ _ _ | .mp id => match S[id]? with | some j => Nat.beq j id | none => false
  | .d _ | .ex _ | .nil | .vp _ _ | .any => true
  | _ => false
def okV (S : List Nat) : V → Bool
  | .fn _ [] => true
  | .fn _ [v] => okV1 S v
  | .fn _ [v, u] => okV1 S v && okV1 S u
  | .fn _ [v, u, x] => okV1 S v && (okV1 S u && okV1 S x)
  | v => okV1 S v
theorem okId {S : List Nat} {id : Nat} (h : (match S[id]? with | some j => Nat.beq j id | none => false) = true) : S[id]? = some id := by
  cases hs : S[id]? with
  | none => rw [hs] at h; simp at h
  | some j => rw [hs] at h; rw [Nat.eq_of_beq_eq_true h]
theorem okV1_le {S : List Nat} {v : V} (h : okV1 S v = true) : LeR S v v := by
  cases v <;> simp only [okV1, Bool.false_eq_true] at h
  case ptr => exact .ptr (okId h)
  case mp => exact .mp (okId h)
  case tk => exact .tk (okId h)
  case hs => exact .hs (okId h) rfl
  case d => exact .d rfl
  case ex => exact .ex
  case nil => exact .nil
  case vp => exact .vp
  case any => exact .any
theorem okV_le {S : List Nat} {v : V} (h : okV S v = true) : LeR S v v := by
  unfold okV at h
  split at h
  · exact .fn0
  · exact .fn1 (okV1_le h)
  · simp only [Bool.and_eq_true] at h
    exact .fn2 (okV1_le h.1) (okV1_le h.2)
  · simp only [Bool.and_eq_true] at h
    exact .fn3 (okV1_le h.1) (okV1_le h.2.1) (okV1_le h.2.2)
  · exact okV1_le h
def okK (S : List Nat) (E : Nat → V) : List Nat → Bool
  | [] => true
  | i :: r => okV S (E i) && okK S E r
theorem okK_mem {S : List Nat} {E : Nat → V} {i : Nat} : ∀ {k : List Nat}, okK S E k = true → inB k i = true → LeR S (E i) (E i)
  | [], _, h => by simp [inB] at h
  | a :: k, hk, h => by
    simp only [okK, Bool.and_eq_true] at hk
    by_cases ha : i = a
    · subst ha; exact okV_le hk.1
    · have : Nat.beq i a = false := by rw [← Bool.not_eq_true, Nat.beq_eq]; exact ha
      simp only [inB, this] at h
      exact okK_mem hk.2 h
def LeRL (S : List Nat) (E : Nat → V) : List (Nat × V) → Prop
  | [] => True
  | (i, u) :: r => LeR S (E i) u ∧ LeRL S E r
theorem LeRL.look {S : List Nat} {g : G} {w : World} {E : Nat → V} {i : Nat} {e : V} {r : Value} (hr : Rep g w (E i) r) (he : Rep (g.ren S) w e r) : ∀ {m : List (Nat × V)}, LeRL S E m → Rep (g.ren S) w (lookV m i e) r
  | [], _ => he
  | (j, u) :: m, h => by
    simp only [lookV]
    by_cases hj : i = j
    · subst hj
      simp only [Nat.beq_refl, cond_true]
      exact h.1.rep hr
    · have : Nat.beq i j = false := by rw [← Bool.not_eq_true, Nat.beq_eq]; exact hj
      simp only [this, cond_false]
      exact LeRL.look hr he h.2

/-- A state meets a head: which slots are kept, what others are, and what the heap is. -/
def Meets (n0 : Nat) (E : Nat → V) (keep : List Nat) (m : List (Nat × V)) (K : List HE) (s : St) : Prop :=
  ∃ S : List Nat, idPre n0 S = true ∧ distinct S = true ∧ okK S E keep = true ∧ LeRL S s.env m ∧ KeepL E s.env keep ∧ LeRH S s.H S K

theorem meets_sim {F : FC} {n0 : Nat} {E : Nat → V} {keep : List Nat} {m : List (Nat × V)} {K : List HE} {s : St} {a : Act} {w : World} (hg : ∀ id, n0 ≤ id → F.g0.σ id = none ∧ F.g0.τ id = none)
    (h : Sim F s a w) (hm : Meets n0 E keep m K s) : Sim F ⟨Ab.head keep E m, K⟩ a w := by
  obtain ⟨h1, h2, g, h3, h4, h5⟩ := h
  obtain ⟨S, k1, k2, k3, k4, k5, k6⟩ := hm
  refine ⟨h1, h2, g.ren S, h3.ren k6 k2, ?_, fun i => ?_⟩
  · refine ⟨h4.same, h4.size, h4.pr, h4.prn, h4.x, h4.keep, fun id b hb => ?_, fun id m a cap ht => ?_⟩
    · have hlt : id < n0 := by
        rcases Nat.lt_or_ge id n0 with h | h
        · exact h
        · rw [(hg id h).1] at hb; cases hb
      simp [G.ren, idPre_get k1 hlt, h4.σ id b hb]
    · have hlt : id < n0 := by
        rcases Nat.lt_or_ge id n0 with h | h
        · exact h
        · rw [(hg id h).2] at ht; cases ht
      simpa [G.ren, idPre_get k1 hlt] using h4.τ id m a cap ht
  · refine LeRL.look (h5 i) ?_ k4
    cases hi : inB keep i with
    | true =>
      simp only [cond_true]
      have := h5 i
      rw [k5.mem hi] at this
      exact (okK_mem k3 hi).rep this
    | false => exact .any

/-- Ways that meet. -/
theorem AW.cutM {F : FC} {Q : Exit → St → Prop} {α : Type} {x y : Code} {E : Nat → V} {H : List HE} (n0 : Nat) (I : α → Prop) (keep : List Nat) (m : α → List (Nat × V)) (K : α → List HE)
    (hg : ∀ id, n0 ≤ id → F.g0.σ id = none ∧ F.g0.τ id = none)
    (h1 : AW F x (thenQ (fun s => ∃ z, I z ∧ Meets n0 E keep (m z) (K z) s) Q) ⟨E, H⟩) (h2 : ∀ z, I z → AW F y Q ⟨head keep E (m z), K z⟩) : AW F (.seq x y) Q ⟨E, H⟩ :=
  AW.seq (h1.mono fun e s hq => by
    cases e with
    | normal =>
      obtain ⟨z, k1, k2⟩ := hq
      exact fun a w hs => h2 z k1 a w (meets_sim hg hs k2)
    | _ => exact hq)

/-- A loop, as the plain language has it. -/
theorem AW.loopM {F : FC} {Q : Exit → St → Prop} {σ τ : Type} {c : Code} {E : Nat → V} {H : List HE} (n0 : Nat) (keep : List Nat) (m : σ → List (Nat × V)) (K : σ → List HE) {f : σ → Option (σ ⊕ τ)} {n : Nat} {s0 : σ} {t : τ}
    (hit : iter n f s0 = some t) (hg : ∀ id, n0 ≤ id → F.g0.σ id = none ∧ F.g0.τ id = none) (h0 : Meets n0 E keep (m s0) (K s0) ⟨E, H⟩)
    (round : ∀ n' s, iter (n' + 1) f s = some t → AW F c (thenQ (fun st => ∃ s', iter n' f s' = some t ∧ Meets n0 E keep (m s') (K s') st) Q) ⟨head keep E (m s), K s⟩) : AW F (.loop c) Q ⟨E, H⟩ :=
  AW.loop (α := Nat × σ) (fun x => iter x.1 f x.2 = some t) (fun x => ⟨head keep E (m x.2), K x.2⟩) (fun x => x.1) (n, s0) hit (fun _ _ hs => meets_sim hg hs h0)
    (fun x hx => by
      obtain ⟨n, s⟩ := x
      cases n with
      | zero => exact (iter0 hx).elim
      | succ n =>
        refine (round n s hx).mono fun e st hq => ?_
        cases e with
        | normal =>
          obtain ⟨s', h1, h2⟩ := hq
          exact ⟨(n, s'), h1, Nat.lt_succ_self _, fun a w hs => meets_sim hg hs h2⟩
        | _ => exact hq)
/-- The same where the heap stays as it is. -/
theorem AW.loopN {F : FC} {Q : Exit → St → Prop} {σ τ : Type} {c : Code} {E : Nat → V} {H : List HE} (keep : List Nat) (m : σ → List (Nat × V)) {f : σ → Option (σ ⊕ τ)} {n : Nat} {s0 : σ} {t : τ}
    (hit : iter n f s0 = some t) (h0 : LeL E (m s0))
    (round : ∀ n' s, iter (n' + 1) f s = some t → AW F c (thenQ (fun st => ∃ s', iter n' f s' = some t ∧ LeL st.env (m s') ∧ KeepL E st.env keep ∧ st.H = H) Q) ⟨head keep E (m s), H⟩) : AW F (.loop c) Q ⟨E, H⟩ :=
  AW.loopE (α := Nat × σ) (fun x => iter x.1 f x.2 = some t) keep (fun x => m x.2) (fun x => x.1) (n, s0) hit h0
    (fun x hx => by
      obtain ⟨n, s⟩ := x
      cases n with
      | zero => exact (iter0 hx).elim
      | succ n =>
        refine (round n s hx).mono fun e st hq => ?_
        cases e with
        | normal =>
          obtain ⟨s', h1, h2, h3, h4⟩ := hq
          exact ⟨(n, s'), h1, Nat.lt_succ_self _, h2, h3, h4⟩
        | _ => exact hq)
end Go.Proofs.YtindppnanjcoaaaGreatDoor.Ab
end
section
namespace Go.Proofs.YtindppnanjcoaaaGreatDoor.Ab
open Go

def setI {α : Type} (l : List α) (k : Int) (v : α) : Option (List α) := if 0 ≤ k ∧ k.toNat < l.length then some (l.set k.toNat v) else none
section
variable {P : Program} {ρ : Operand → V} {H : List HE} {ty : TypeId}

/-- A new list: an entry that was free. -/
theorem WOK.newLst {g : G} {w w' : World} {id s cap : Nat} {l : List D} {arr : Array Value} {et : TypeId} (hw : WOK g w H) (hH : H[id]? = some .free) (hsame : w'.os = w.os ∧ w'.tape = w.tape ∧ w'.output = w.output) (hh : w'.heap = w.heap.push (.cells arr et (0, 0)))
    (hlen : l.length ≤ cap) (hcap : cap ≤ 9223372036854775807) (harr : arr.size = cap * s) (hrep : ∀ (k : Nat) x v, (D.flat l)[k]? = some x → arr[k]? = some v → RepD g.Pr w x v) :
    ∃ g', WOK g' w' (H.set id (.lst l et s)) ∧ Evo g w g' w' ∧ g'.τ id = some (0, some ⟨w.heap.size, 0, none⟩, cap) := by
  have hidlt : id < H.length := (List.getElem?_eq_some_iff.1 hH).1
  obtain ⟨hfσ, hfτ, hfυ⟩ := hw.free id (.inl hH)
  let B := w.heap.size
  let g' : G := { σ := fun i => if i = id then some B else g.σ i, τ := fun i => if i = id then some (0, some ⟨B, 0, none⟩, cap) else g.τ i, υ := g.υ, X := fun b => g.X b ∨ b = B, Pr := g.Pr }
  have hold : ∀ b, b < B → w'.heap[b]? = w.heap[b]? := fun b hb => by
    rw [hh, Array.getElem?_push, if_neg (by omega)]
  have hnew : w'.heap[B]? = some (.cells arr et (0, 0)) := by simp [hh, B]
  have hsz : w'.heap.size = B + 1 := by simp [hh, B]
  have hσ' : ∀ i, i ≠ id → g'.σ i = g.σ i := fun i h => by simp [g', h]
  have hτ' : ∀ i, i ≠ id → g'.τ i = g.τ i := fun i h => by simp [g', h]
  have hτid : g'.τ id = some (0, some ⟨B, 0, none⟩, cap) := by simp [g']
  have hev : Evo g w g' w' := {
    same := hsame
    size := by omega
    pr := fun b o hp => ⟨hp, by have := hw.pr b o hp; simp [World.cell?, hold b this]⟩
    prn := fun b o h => .inl h
    x := fun b h => h.imp (fun h => h) (fun e => by omega)
    keep := fun b hb _ => hold b hb
    σ := fun i b h => by
      have : i ≠ id := fun e => by subst e; rw [hfσ] at h; cases h
      rw [hσ' i this]; exact h
    τ := fun i m a cap h => by
      have : i ≠ id := fun e => by subst e; rw [hfτ] at h; cases h
      exact ⟨m, a, cap, by rw [hτ' i this]; exact h, .inr ⟨rfl, rfl, rfl⟩⟩ }
  have hget : ∀ (i : Nat) e, (H.set id (.lst l et s))[i]? = some e → (i = id ∧ e = .lst l et s) ∨ (i ≠ id ∧ H[i]? = some e) := by
    intro i e he
    by_cases hi : i = id
    · subst hi; rw [List.getElem?_set_self hidlt] at he; exact .inl ⟨rfl, (Option.some.inj he).symm⟩
    · rw [List.getElem?_set_ne (Ne.symm hi)] at he; exact .inr ⟨hi, he⟩
  have hblk : ∀ (i : Nat) e b', (H.set id (.lst l et s))[i]? = some e → g'.blk i e b' → (i = id ∧ b' = B) ∨ (i ≠ id ∧ H[i]? = some e ∧ g.blk i e b' ∧ b' < B) := by
    intro i e b' he hb'
    rcases hget i e he with ⟨rfl, rfl⟩ | ⟨hne, h⟩
    · simp only [G.blk, hτid, Option.bind_some] at hb'
      split at hb' <;> simp at hb'
      exact .inl ⟨rfl, hb'.symm⟩
    · have : g.blk i e b' := by
        cases e <;> simp only [G.blk, hσ' i hne, hτ' i hne] at hb' ⊢ <;> exact hb'
      exact .inr ⟨hne, h, this, hw.xs b' (hw.blk i e b' h this)⟩
  refine ⟨g', ⟨fun b o h => by have := hw.pr b o h; show b < w'.heap.size; omega, ?_, ?_, ?_, ?_, ?_, ?_, ?_, ?_, hw.kcE hev⟩, hev, hτid⟩
  · intro b h
    show b < w'.heap.size
    rcases h with h | rfl
    · have := hw.xs b h; omega
    · omega
  · intro i e b' he hb'
    rcases hblk i e b' he hb' with ⟨_, rfl⟩ | ⟨_, h1, h2, _⟩
    · exact .inr rfl
    · exact .inl (hw.blk i e b' h1 h2)
  · intro i i' e e' b' he he' hb1 hb2
    rcases hblk i e b' he hb1 with ⟨r1, r2⟩ | ⟨_, h1, h2, h3⟩ <;> rcases hblk i' e' b' he' hb2 with ⟨s1, s2⟩ | ⟨_, h4, h5, h6⟩
    · omega
    · omega
    · omega
    · exact hw.sep i i' e e' b' h1 h4 h2 h5
  · intro i ci hi
    rcases hget i _ hi with ⟨rfl, he⟩ | ⟨hne, h⟩
    · cases he
    · obtain ⟨b1, arr1, et1, g1, g2, g3, g4, g5⟩ := hw.row i ci h
      have hlt := hw.xs b1 (hw.blk i _ b1 h (by simpa [G.blk] using g1))
      exact ⟨b1, arr1, et1, by rw [hσ' i hne]; exact g1, (hold b1 hlt).trans g2, g3, fun k x v hx hv => (g4 k x v hx hv).mono hev, g5⟩
  · intro i n e s hi
    rcases hget i _ hi with ⟨_, he⟩ | ⟨hne, h⟩
    · cases he
    · obtain ⟨a, cap, g1, g2, g3, g4⟩ := hw.tok i n e s h
      refine ⟨a, cap, by rw [hτ' i hne]; exact g1, g2, g3, fun hlt => ?_⟩
      obtain ⟨b1, arr1, k1, k2, k3, k4⟩ := g4 hlt
      have hlt' := hw.xs b1 (hw.blk i _ b1 h (by simp [G.blk, g1, hlt, k1]))
      exact ⟨b1, arr1, k1, (hold b1 hlt').trans k2, k3, k4⟩
  · intro i l1 e s1 hi
    rcases hget i _ hi with ⟨rfl, he⟩ | ⟨hne, h⟩
    · injection he with q1 q2 q3
      subst q1; subst q2; subst q3
      refine ⟨_, cap, hτid, hlen, hcap, fun _ => ⟨B, arr, rfl, by simp [g'], hnew, harr, fun o hp => by have := hw.pr B o hp; omega, fun k x v hx hv => (hrep k x v hx hv).mono hev.pr⟩⟩
    · obtain ⟨a, cap, g1, g2, g3, g4⟩ := hw.lst i l1 e s1 h
      refine ⟨a, cap, by rw [hτ' i hne]; exact g1, g2, g3, fun hlt => ?_⟩
      obtain ⟨b1, arr1, k1, k0, k2, k3, k4, k5⟩ := g4 hlt
      have hlt' := hw.xs b1 (hw.blk i _ b1 h (by simp [G.blk, g1, hlt, k1]))
      exact ⟨b1, arr1, k1, by rw [hσ' i hne]; exact k0, (hold b1 hlt').trans k2, k3, k4, fun k x v hx hv => (k5 k x v hx hv).mono hev.pr⟩
  · intro i x hi
    rcases hget i _ hi with ⟨_, he⟩ | ⟨hne, h⟩
    · cases he
    · obtain ⟨b1, q1, q2, q3, q4⟩ := hw.ob i x h
      have hlt := hw.xs b1 (hw.blk i _ b1 h (.inl q1))
      exact ⟨b1, by rw [hσ' i hne]; exact q1, x.st hev.w (hτ' i hne) rfl (hold b1 hlt) (fun b' hu => hold b' (hw.xs b' (hw.blk i _ b' h (.inr hu)))) q2, q3, q4⟩
  · intro i hi
    have hne : i ≠ id := by
      rintro rfl
      rcases hi with hi | hi
      · rw [List.getElem?_set_self hidlt] at hi; cases hi
      · simp at hi; omega
    rw [hσ' i hne, hτ' i hne]
    refine hw.free i ?_
    rcases hi with hi | hi
    · rw [List.getElem?_set_ne (Ne.symm hne)] at hi; exact .inl hi
    · exact .inr (by simpa using hi)

theorem flat_one1 {α : Type} {f : α → D} (h1 : ∀ x, (f x).cells = [f x]) (l : List α) : D.flat (l.map f) = l.map f :=
  flat_one (fun x hx => by obtain ⟨y, _, rfl⟩ := List.mem_map.1 hx; exact h1 y)

end
end Go.Proofs.YtindppnanjcoaaaGreatDoor.Ab
end
section
namespace Go.Proofs.YtindppnanjcoaaaGreatDoor.Ab
open Go

/-- The block of a list is read from now on, and not written. -/
theorem WOK.freeze {g : G} {w : World} {H : List HE} {id s : Nat} {l : List D} {e : TypeId} (hw : WOK g w H) (hH : H[id]? = some (.lst l e s)) (hs : ∀ x ∈ l, x.cells.length = s) :
    ∃ g', WOK g' w (H.set id .dead) ∧ Evo g w g' w ∧ (∀ i, g'.τ i = g.τ i) ∧ (∀ a cap, g.τ id = some (0, a, cap) → RepD g'.Pr w (.sl l) (.slice a l.length cap)) := by
  have hidlt : id < H.length := (List.getElem?_eq_some_iff.1 hH).1
  obtain ⟨a0, cap0, f1, f2, f3, f4⟩ := hw.lst id l e s hH
  let g' : G := { σ := g.σ, τ := g.τ, υ := g.υ, X := g.X, Pr := fun b o => g.Pr b o ∨ (0 < cap0 ∧ g.blk id (.lst l e s) b ∧ o < l.length * s) }
  have hXb : ∀ b, g.blk id (.lst l e s) b → g.X b := fun b hb => hw.blk id _ b hH hb
  have hev : Evo g w g' w := {
    same := ⟨rfl, rfl, rfl⟩
    size := Nat.le_refl _
    pr := fun b o hp => ⟨.inl hp, rfl⟩
    prn := fun b o h => by
      rcases h with h | ⟨_, h, _⟩
      · exact .inl h
      · exact .inr (.inl (hXb b h))
    x := fun b h => .inl h
    keep := fun b _ _ => rfl
    σ := fun _ _ h => h
    τ := fun _ m a cap h => ⟨m, a, cap, h, .inr ⟨rfl, rfl, rfl⟩⟩ }
  have hget : ∀ (i : Nat) e, (H.set id .dead)[i]? = some e → (i = id ∧ e = .dead) ∨ (i ≠ id ∧ H[i]? = some e) := by
    intro i e he
    by_cases hi : i = id
    · subst hi; rw [List.getElem?_set_self hidlt] at he; exact .inl ⟨rfl, (Option.some.inj he).symm⟩
    · rw [List.getElem?_set_ne (Ne.symm hi)] at he; exact .inr ⟨hi, he⟩
  have hne : ∀ (i : Nat) x b, i ≠ id → H[i]? = some x → g.blk i x b → ¬ g.blk id (.lst l e s) b := fun i x b hi hx hb hc => hi (hw.sep i id _ _ b hx hH hb hc)
  refine ⟨g', ⟨?_, hw.xs, ?_, ?_, ?_, ?_, ?_, ?_, ?_, hw.kcE hev⟩, hev, fun _ => rfl, ?_⟩
  · intro b o h
    rcases h with h | ⟨_, h, _⟩
    · exact hw.pr b o h
    · exact hw.xs b (hXb b h)
  · intro i x b he hb
    rcases hget i x he with ⟨rfl, rfl⟩ | ⟨hi, h⟩
    · simp [G.blk] at hb
    · exact hw.blk i x b h (by cases x <;> exact hb)
  · intro i i' x x' b he he' hb hb'
    rcases hget i x he with ⟨rfl, rfl⟩ | ⟨hi, h⟩
    · simp [G.blk] at hb
    · rcases hget i' x' he' with ⟨rfl, rfl⟩ | ⟨hi', h'⟩
      · simp [G.blk] at hb'
      · exact hw.sep i i' x x' b h h' (by cases x <;> exact hb) (by cases x' <;> exact hb')
  · intro i c he
    rcases hget i _ he with ⟨_, h⟩ | ⟨hi, h⟩
    · cases h
    · obtain ⟨b1, arr1, et1, g1, g2, g3, g4, g5⟩ := hw.row i c h
      refine ⟨b1, arr1, et1, g1, g2, g3, fun k x v hx hv => (g4 k x v hx hv).mono hev, fun o hp => ?_⟩
      rcases hp with hp | ⟨_, hp, _⟩
      · exact g5 o hp
      · exact hne i _ b1 hi h g1 hp
  · intro i n e1 s1 he
    rcases hget i _ he with ⟨_, h⟩ | ⟨hi, h⟩
    · cases h
    · obtain ⟨a, cap, g1, g2, g3, g4⟩ := hw.tok i n e1 s1 h
      refine ⟨a, cap, g1, g2, g3, fun hlt => ?_⟩
      obtain ⟨b1, arr1, k1, k2, k3, k4⟩ := g4 hlt
      refine ⟨b1, arr1, k1, k2, k3, fun o hp => ?_⟩
      rcases hp with hp | ⟨_, hp, _⟩
      · exact k4 o hp
      · exact absurd hp (hne i _ b1 hi h (by simp [G.blk, g1, hlt, k1]))
  · intro i l1 e1 s1 he
    rcases hget i _ he with ⟨_, h⟩ | ⟨hi, h⟩
    · cases h
    · obtain ⟨a, cap, g1, g2, g3, g4⟩ := hw.lst i l1 e1 s1 h
      refine ⟨a, cap, g1, g2, g3, fun hlt => ?_⟩
      obtain ⟨b1, arr1, k1, k0, k2, k3, k4, k5⟩ := g4 hlt
      refine ⟨b1, arr1, k1, k0, k2, k3, fun o hp => ?_, fun k x v hx hv => (k5 k x v hx hv).mono hev.pr⟩
      rcases hp with hp | ⟨_, hp, _⟩
      · exact k4 o hp
      · exact absurd hp (hne i _ b1 hi h (by simp [G.blk, g1, hlt, k1]))
  · intro i x he
    rcases hget i _ he with ⟨_, h⟩ | ⟨hi, h⟩
    · cases h
    · obtain ⟨b1, q1, q2, q3, q4⟩ := hw.ob i x h
      refine ⟨b1, q1, x.st hev.w rfl rfl rfl (fun _ _ => rfl) q2, fun o hp => ?_, fun b' o hu hp => ?_⟩
      · rcases hp with hp | ⟨_, hp, _⟩
        · exact q3 o hp
        · exact hne i _ b1 hi h (.inl q1) hp
      · rcases hp with hp | ⟨_, hp, _⟩
        · exact q4 b' o hu hp
        · exact hne i _ b' hi h (.inr hu) hp
  · intro i hi
    have hne : i ≠ id := by
      rintro rfl
      rcases hi with hi | hi
      · rw [List.getElem?_set_self hidlt] at hi; cases hi
      · simp at hi; omega
    refine hw.free i ?_
    rcases hi with hi | hi
    · rw [List.getElem?_set_ne (Ne.symm hne)] at hi; exact .inl hi
    · exact .inr (by simpa using hi)
  · intro a cap ht
    rw [f1] at ht; injection ht with ht; injection ht with _ ht; injection ht with h1 h2
    subst h1; subst h2
    refine .sl l a0 cap0 s (fun k => match a0 with | some ad => (w.cell? ⟨ad.block, k, none⟩).getD undef | none => undef) hs f2 (fun hnil => ?_) (fun k x hx => ?_)
    · have hlpos : 0 < l.length := List.length_pos_iff.2 hnil
      have hc : 0 < cap0 := by omega
      obtain ⟨b, arr, rfl, q0, q2, q3, q4, q5⟩ := f4 hc
      refine ⟨b, 0, rfl, fun k hk => ⟨.inr ⟨hc, by simp [G.blk, f1, hc], by omega⟩, ?_⟩⟩
      have hka : k < arr.size := by
        rw [q3]; exact Nat.lt_of_lt_of_le hk (Nat.mul_le_mul_right _ f2)
      simp only [Nat.zero_add, cell_of_cells q2]
      simp [hka]
    · have hfl := flat_length hs
      have hkl : k < l.length * s := by rw [← hfl]; exact (List.getElem?_eq_some_iff.1 hx).1
      have hc : 0 < cap0 := by
        rcases Nat.eq_zero_or_pos cap0 with h | h
        · have : l.length = 0 := by omega
          rw [this] at hkl; simp at hkl
        · exact h
      obtain ⟨b, arr, rfl, q0, q2, q3, q4, q5⟩ := f4 hc
      have hka : k < arr.size := by
        rw [q3]; exact Nat.lt_of_lt_of_le hkl (Nat.mul_le_mul_right _ f2)
      simp only [cell_of_cells q2]
      have : arr[k]? = some arr[k] := by simp [hka]
      rw [this]
      exact (q5 k x _ hx this).mono hev.pr

def setE (E : Nat → V) : List Nat → V → Nat → V
  | [], _ => E
  | t :: ts, v => upd (setE E ts v) t v
def SameE (E : Nat → V) (v : V) : List Nat → Prop
  | [] => True
  | t :: ts => E t = v ∧ SameE E v ts
theorem setE_rep {g : G} {w : World} {E : Nat → V} {v u : V} {i : Nat} {r : Value} (hr : Rep g w (E i) r) (huv : Rep g w u r → Rep g w v r) : ∀ {ts : List Nat}, SameE E u ts → Rep g w (setE E ts v i) r
  | [], _ => hr
  | t :: ts, h => by
    simp only [setE]
    by_cases hi : i = t
    · subst hi
      rw [upd_same]
      rw [h.1] at hr
      exact huv hr
    · rw [upd_ne _ _ hi]; exact setE_rep hr huv h.2

theorem AW.freeze {F : FC} {Q : Exit → St → Prop} {c : Code} {E : Nat → V} {H : List HE} {α : Type} {f : α → D} {l : List α} {e : TypeId} {s len : Nat} (id : Nat) (ts : List Nat) (hH : H[id]? = some (.lst (l.map f) e s)) (hl : l.length = len) (hf : En f s)
    (hE : SameE E (.hs id 0 len s) ts) (h : AW F c Q ⟨setE E ts (.d (.sl (l.map f))), H.set id .dead⟩) : AW F c Q ⟨E, H⟩ := by
  rintro a w ⟨h1, h2, g, h3, h4, h5⟩
  obtain ⟨a0, cap0, k1, k2, _⟩ := h3.lst id _ _ _ hH
  obtain ⟨g', w1, w2, w3, w4⟩ := h3.freeze hH (hf.szL l)
  refine h a w ⟨h1, h2, g', w1, h4.trans w2, fun i => setE_rep ((h5 i).mono w2) (fun hr => ?_) hE⟩
  generalize a.tmps.getD i undef = r at hr
  cases hr with
  | @hs _ _ _ _ m cap' n0 c0 a' a0' p1 p2 =>
    rw [w3, k1] at p1; injection p1 with p1; injection p1 with p1 p3; injection p3 with p3 p4
    obtain ⟨r1, r2, r3, _⟩ := hs0 (p2 p1.symm)
    have := w4 a0 cap0 k1
    subst r1; subst r3; subst p3; subst p4
    rw [r2, ← hl]
    simp only [List.length_map] at this
    exact .d this

/-- Plain results: nothing in memory. -/
def D.flatOk : D → Bool
  | .int _ _ | .bool _ | .str _ => true
  | .tup l => l.all fun x => match x with | .int _ _ | .bool _ | .str _ => true | _ => false
  | _ => false
theorem RepD.plain {Pr Pr' : Nat → Nat → Prop} {w w' : World} {x : D} {r : Value} (hx : x.flatOk = true) (h : RepD Pr w x r) : RepD Pr' w' x r := by
  cases h with
  | bool b => exact .bool b
  | int k n => exact .int k n
  | str s => exact .str s
  | raw => exact .raw _
  | agg l arr hs hr => simp [D.flatOk] at hx
  | sl => simp [D.flatOk] at hx
  | tup l arr hs hr =>
    refine .tup l arr hs (fun i y v hy hv => ?_)
    have := List.all_eq_true.1 hx y (List.mem_of_getElem? hy)
    have h2 := hr i y v hy hv
    cases h2 <;> simp at this
    · exact .bool _
    · exact .int _ _
    · exact .str _

/-- Arguments of a call: data, or lists that are lent to it. -/
inductive ArgsM (ρ : Operand → V) (H : List HE) (ids : List Nat) : List Operand → List D → Prop
  | nil : ArgsM ρ H ids [] []
  | d {x : Operand} {d : D} {xs : List Operand} {ds : List D} : As (ρ x) d → ArgsM ρ H ids xs ds → ArgsM ρ H ids (x :: xs) (d :: ds)
  | l {x : Operand} {α : Type} {f : α → D} {l : List α} {id len s : Nat} {e : TypeId} {xs : List Operand} {ds : List D} : Is (ρ x) (.hs id 0 len s) → H[id]? = some (.lst (l.map f) e s) → l.length = len → En f s → inB ids id = true →
      ArgsM ρ H ids xs ds → ArgsM ρ H ids (x :: xs) (.sl (l.map f) :: ds)

theorem ArgsM.get {ρ : Operand → V} {H : List HE} {ids : List Nat} {xs : List Operand} {ds : List D} (h : ArgsM ρ H ids xs ds) : xs.length = ds.length ∧ ∀ (i : Nat) d, ds[i]? = some d → ∃ x, xs[i]? = some x ∧
    (As (ρ x) d ∨ ∃ (l : List D) (id len s : Nat) (e : TypeId), Is (ρ x) (.hs id 0 len s) ∧ H[id]? = some (.lst l e s) ∧ l.length = len ∧ (∀ x ∈ l, x.cells.length = s) ∧ id ∈ ids ∧ d = .sl l) := by
  induction h with
  | nil => simp
  | d ha _ ih =>
    refine ⟨by simp [ih.1], fun i d hd => ?_⟩
    cases i with
    | zero => simp only [List.getElem?_cons_zero, Option.some.injEq] at hd; subst hd; exact ⟨_, rfl, .inl ha⟩
    | succ i => exact ih.2 i d (by simpa using hd)
  | l h1 h2 h3 h4 h5 _ ih =>
    refine ⟨by simp [ih.1], fun i d hd => ?_⟩
    cases i with
    | zero => simp only [List.getElem?_cons_zero, Option.some.injEq] at hd; subst hd; exact ⟨_, rfl, .inr ⟨_, _, _, _, _, h1, h2, by simpa using h3, h4.szL _, inB_mem.1 h5, rfl⟩⟩
    | succ i => exact ih.2 i d (by simpa using hd)

section
variable {P : Program} {ρ : Operand → V} {H : List HE} {ty : TypeId}
end
end Go.Proofs.YtindppnanjcoaaaGreatDoor.Ab
end
section
namespace Go.Proofs.YtindppnanjcoaaaGreatDoor.Ab
open Go

def textL (l : List Int) : List UInt8 := l.map fun n => UInt8.ofNat n.toNat
section
variable {P : Program} {ρ : Operand → V} {H : List HE} {ty : TypeId} {x y : Operand} {t u : TypeId} {s s' : List UInt8}
theorem op_textM {l : List Int} {e : TypeId} (hx : As (ρ x) (.sl (l.map (D.int .u8)))) (ht : P.underlying t = some (.slice e)) (hu : P.underlying u = some .string) (he : P.underlying e = some (.int .u8)) :
    OpV P (.convert t u x) ty ρ H (.d (.str (textL l))) H :=
  OpV.of_val fun g w r _ h => ⟨.string ⟨(textL l).toArray⟩, fun _ _ _ _ => by
    have h1 := hx.rep (h x (by simp [Op.operands]))
    generalize hr : r x = v at h1
    cases h1 with
    | sl _ a cap s' f hs' hcap hrow hrep =>
      simp only [List.length_map] at hcap hr
      by_cases hl : l = []
      · subst hl
        cases a with
        | none => simp [execOp, hr, run_convert_bytes_nil w t e ht he _ _ u hu, textL]; rfl
        | some ad =>
          have := run_convert_bytes_string (P := P) w t u e (some ad) 0 cap ht he hu
          simp at hr
          simp [execOp, hr, this, Conv.bytesToString, textL]
          rfl
      · have hs1 : s' = 1 := by
          obtain ⟨c, hc⟩ := List.exists_mem_of_ne_nil l hl
          exact (hs' (.int .u8 c) (List.mem_map.2 ⟨c, hc, rfl⟩)).symm
        subst hs1
        obtain ⟨b, o, rfl, hk⟩ := hrow (by simpa using hl)
        have hflat : D.flat (l.map (D.int .u8)) = l.map (D.int .u8) := flat_one (fun x hx => by obtain ⟨c, _, rfl⟩ := List.mem_map.1 hx; rfl)
        have := run_convert_bytes_arg (P := P) w t e ht he b o l.length cap l rfl (fun i hi => by
          have h2 := (hk i (by simpa using hi)).2
          have h3 := hrep i (.int .u8 (l.getD i 0)) (by rw [hflat]; simp [List.getD, hi])
          rw [h2]
          generalize f i = fv at h3
          cases h3
          rfl) u hu
        simp [execOp, hr, this]
        rfl, .d (.str _)⟩
end
end Go.Proofs.YtindppnanjcoaaaGreatDoor.Ab
end
