/- The abstract states over which the walks of this claim are typed: data, values, what a value in memory stands for, and how a world may evolve. The rules of the walk over abstract states: statements, branches, loops, the operations of a region in their order, entering a function. What each operation comes to over abstract states, proved against the model, one lemma an operation. Conditions: none. -/
import Derived.Calls
import Derived.Orders
import Derived.Laws.Cells
import Derived.Laws.Tables
import Derived.Laws.AppendOwn
import Derived.Laws.IdiomCopy
import Derived.ChangeKeysEq
section
namespace Go.Proofs.YtindppnanjcoaaaGreatDoor.Ab
open Go

/-- Package-level variables whose values are known: block, cells. -/
def KC : List (Nat × Array Value) := [(0, ((List.range 20).map fun i => Value.int .u64 ((10 ^ i : Nat) : Int)).toArray)]

/-- Data: what can be handed over by value. -/
inductive D where
  | bool (b : Bool)
  | int (k : IntKind) (n : Int)
  | str (s : List UInt8)
  | sl (l : List D)
  | agg (l : List D)
  | tup (l : List D)
  | raw (v : Value)
  deriving Inhabited

abbrev D.i (n : Int) : D := .int .i64 n

/-- Lists of bytes are meant where a text is. -/
def D.cells : D → List D
  | .agg l => l
  | x => [x]

def D.flat (l : List D) : List D := l.flatMap D.cells

/-- Values of a walk. -/
inductive V where
  | d (x : D)
  | hs (id off len s : Nat)
  | ptr (id off : Nat)
  | mp (id : Nat)
  | vp (c : List D) (off : Nat)
  | tk (id : Nat) (l : List D)
  | ex (l : List D)
  | nil
  | fn (f : Fn) (caps : List V)
  | agg (cells : List V)
  | tup (vs : List V)
  | when (b : Bool) (v : V)
  | any
  deriving Inhabited

structure G where
  σ : Nat → Option Nat
  τ : Nat → Option (Nat × Option Addr × Nat)
  υ : Nat → Nat → Prop
  X : Nat → Prop
  Pr : Nat → Nat → Prop

inductive RepD (Pr : Nat → Nat → Prop) (w : World) : D → Value → Prop
  | bool (b : Bool) : RepD Pr w (.bool b) (.bool b)
  | int (k : IntKind) (n : Int) : RepD Pr w (.int k n) (.int k n)
  | str (s : List UInt8) : RepD Pr w (.str s) (.string ⟨s.toArray⟩)
  | raw (v : Value) : RepD Pr w (.raw v) v
  | agg (l : List D) (arr : Array Value) : arr.size = l.length → (∀ (i : Nat) x v, l[i]? = some x → arr[i]? = some v → RepD Pr w x v) → RepD Pr w (.agg l) (.agg arr)
  | tup (l : List D) (arr : Array Value) : arr.size = l.length → (∀ (i : Nat) x v, l[i]? = some x → arr[i]? = some v → RepD Pr w x v) → RepD Pr w (.tup l) (.tuple arr)
  | sl (l : List D) (a : Option Addr) (cap s : Nat) (f : Nat → Value) : (∀ x ∈ l, x.cells.length = s) → l.length ≤ cap →
      (l ≠ [] → ∃ b o, a = some ⟨b, o, none⟩ ∧ ∀ k, k < l.length * s → Pr b (o + k) ∧ w.cell? ⟨b, o + k, none⟩ = some (f k)) →
      (∀ (k : Nat) x, (D.flat l)[k]? = some x → RepD Pr w x (f k)) → RepD Pr w (.sl l) (.slice a l.length cap)

/-- Where a piece of a list begins. -/
def subA (a : Option Addr) (cap off s : Nat) : Option Addr := if off = 0 then a else if cap = off then a else a.map (·.add (off * s))
theorem hs0 {a a0 : Option Addr} {cap s n0 len c0 : Nat} (h : a0 = subA a cap 0 s ∧ n0 = len ∧ c0 = cap - 0 ∧ len + 0 ≤ cap) : a0 = a ∧ n0 = len ∧ c0 = cap ∧ len ≤ cap := h

inductive Rep (g : G) (w : World) : V → Value → Prop
  | d {x : D} {r : Value} : RepD g.Pr w x r → Rep g w (.d x) r
  | hs {id off len s m cap n0 c0 : Nat} {a a0 : Option Addr} : g.τ id = some (m, a, cap) → (m = 0 → a0 = subA a cap off s ∧ n0 = len ∧ c0 = cap - off ∧ len + off ≤ cap) → Rep g w (.hs id off len s) (.slice a0 n0 c0)
  | ptr {id off b : Nat} : g.σ id = some b → Rep g w (.ptr id off) (.pointer (some ⟨b, off, none⟩))
  | mp {id b : Nat} : g.σ id = some b → Rep g w (.mp id) (.map (some b))
  | vp {c : List D} {off b o : Nat} {f : Nat → Value} : (∀ k, k < c.length → g.Pr b (o + k) ∧ w.cell? ⟨b, o + k, none⟩ = some (f k)) →
      (∀ (k : Nat) x, c[k]? = some x → RepD g.Pr w x (f k)) → Rep g w (.vp c off) (.pointer (some ⟨b, o + off, none⟩))
  | tk {id : Nat} {l : List D} {r : Value} {m cap : Nat} {a : Option Addr} : RepD g.Pr w (.sl l) r → g.τ id = some (m, a, cap) → l.length ≤ m →
      (l.length = m → r = .slice a m cap) → Rep g w (.tk id l) r
  | ex {l : List D} {a : Option Addr} : RepD g.Pr w (.sl l) (.slice a l.length l.length) → Rep g w (.ex l) (.slice a l.length l.length)
  | nil : Rep g w .nil (.slice none 0 0)
  | fn {f : Fn} {caps : List V} {arr : Array Value} : arr.size = caps.length → (∀ (i : Nat) x v, caps[i]? = some x → arr[i]? = some v → Rep g w x v) →
      Rep g w (.fn f caps) (.func f #[] arr)
  | agg {l : List V} {arr : Array Value} : arr.size = l.length → (∀ (i : Nat) x v, l[i]? = some x → arr[i]? = some v → Rep g w x v) → Rep g w (.agg l) (.agg arr)
  | tup {l : List V} {arr : Array Value} : arr.size = l.length → (∀ (i : Nat) x v, l[i]? = some x → arr[i]? = some v → Rep g w x v) → Rep g w (.tup l) (.tuple arr)
  | when {b : Bool} {v : V} {r : Value} : (b = true → Rep g w v r) → (b = false → r = undef) → Rep g w (.when b v) r
  | any {r : Value} : Rep g w .any r

structure Evo (g : G) (w : World) (g' : G) (w' : World) : Prop where
  same : w'.os = w.os ∧ w'.tape = w.tape ∧ w'.output = w.output
  size : w.heap.size ≤ w'.heap.size
  pr : ∀ b o, g.Pr b o → g'.Pr b o ∧ w'.cell? ⟨b, o, none⟩ = w.cell? ⟨b, o, none⟩
  prn : ∀ b o, g'.Pr b o → g.Pr b o ∨ g.X b ∨ w.heap.size ≤ b
  x : ∀ b, g'.X b → g.X b ∨ w.heap.size ≤ b
  keep : ∀ b, b < w.heap.size → ¬ g.X b → w'.heap[b]? = w.heap[b]?
  σ : ∀ id b, g.σ id = some b → g'.σ id = some b
  τ : ∀ id m a cap, g.τ id = some (m, a, cap) → ∃ m' a' cap', g'.τ id = some (m', a', cap') ∧ (m < m' ∨ (m' = m ∧ a' = a ∧ cap' = cap))

/-- What an evolution keeps of what values stand for. -/
structure EvoW (g : G) (w : World) (g' : G) (w' : World) : Prop where
  pr : ∀ b o, g.Pr b o → g'.Pr b o ∧ w'.cell? ⟨b, o, none⟩ = w.cell? ⟨b, o, none⟩
  σ : ∀ id b, g.σ id = some b → g'.σ id = some b
  τ : ∀ id m a cap, g.τ id = some (m, a, cap) → ∃ m' a' cap', g'.τ id = some (m', a', cap') ∧ (m < m' ∨ (m' = m ∧ a' = a ∧ cap' = cap))
theorem Evo.w {g g' : G} {w w' : World} (h : Evo g w g' w') : EvoW g w g' w' := ⟨h.pr, h.σ, h.τ⟩

/-- An object of the heap that is no block of cells: what is known of it, and that this stays. -/
structure OB where
  φ : G → World → Nat → Nat → Prop
  st : ∀ {g g' : G} {w w' : World} {id b : Nat}, EvoW g w g' w' → g'.τ id = g.τ id → g'.υ id = g.υ id → w'.heap[b]? = w.heap[b]? → (∀ b', g.υ id b' → w'.heap[b']? = w.heap[b']?) → φ g w id b → φ g' w' id b
  fr : Bool
  fre : fr = true → ∀ {g g' : G} {w : World} {i j b : Nat}, g'.Pr = g.Pr → g'.τ j = g.τ i → g'.υ j = g.υ i → φ g w i b → φ g' w j b

inductive HE where
  | free
  | dead
  | row (cells : List V)
  | tok (n : Nat) (e : TypeId) (s : Nat)
  | lst (l : List D) (e : TypeId) (s : Nat)
  | ob (x : OB)

instance : Inhabited HE := ⟨.free⟩

/-- The block that a live entry of the heap takes. -/
def G.blk (g : G) : Nat → HE → Nat → Prop
  | id, .row _, b => g.σ id = some b
  | id, .ob _, b => g.σ id = some b ∨ g.υ id b
  | id, .tok n _ _, b => ((g.τ id).bind fun t => if n < t.2.2 then t.2.1.map (·.block) else none) = some b
  | id, .lst _ _ _, b => ((g.τ id).bind fun t => if 0 < t.2.2 then t.2.1.map (·.block) else none) = some b
  | _, _, _ => False

structure WOK (g : G) (w : World) (H : List HE) : Prop where
  pr : ∀ b o, g.Pr b o → b < w.heap.size
  xs : ∀ b, g.X b → b < w.heap.size
  blk : ∀ (id : Nat) e b, H[id]? = some e → g.blk id e b → g.X b
  sep : ∀ (id id' : Nat) e e' b, H[id]? = some e → H[id']? = some e' → g.blk id e b → g.blk id' e' b → id = id'
  row : ∀ (id : Nat) c, H[id]? = some (.row c) → ∃ b arr et, g.σ id = some b ∧ w.heap[b]? = some (.cells arr et (0, 0)) ∧ c.length ≤ arr.size ∧
    (∀ (k : Nat) x v, c[k]? = some x → arr[k]? = some v → Rep g w x v) ∧ (∀ o, ¬ g.Pr b o)
  tok : ∀ (id : Nat) n e s, H[id]? = some (.tok n e s) → ∃ a cap, g.τ id = some (n, a, cap) ∧ n ≤ cap ∧ cap ≤ 9223372036854775807 ∧
    (n < cap → ∃ b arr, a = some ⟨b, 0, none⟩ ∧ w.heap[b]? = some (.cells arr e (0, 0)) ∧ arr.size = cap * s ∧ (∀ o, g.Pr b o → o < n * s))
  lst : ∀ (id : Nat) l e s, H[id]? = some (.lst l e s) → ∃ a cap, g.τ id = some (0, a, cap) ∧ l.length ≤ cap ∧ cap ≤ 9223372036854775807 ∧
    (0 < cap → ∃ b arr, a = some ⟨b, 0, none⟩ ∧ g.σ id = some b ∧ w.heap[b]? = some (.cells arr e (0, 0)) ∧ arr.size = cap * s ∧ (∀ o, ¬ g.Pr b o) ∧
      (∀ (k : Nat) x v, (D.flat l)[k]? = some x → arr[k]? = some v → RepD g.Pr w x v))
  ob : ∀ (id : Nat) x, H[id]? = some (.ob x) → ∃ b, g.σ id = some b ∧ x.φ g w id b ∧ (∀ o, ¬ g.Pr b o) ∧ (∀ b' o, g.υ id b' → ¬ g.Pr b' o)
  free : ∀ (id : Nat), (H[id]? = some .free ∨ H.length ≤ id) → g.σ id = none ∧ g.τ id = none ∧ ∀ b, ¬ g.υ id b
  kc : ∀ x ∈ KC, ¬ g.X x.1 ∧ (∀ o, o < x.2.size → g.Pr x.1 o) ∧ ∃ et fr, w.heap[x.1]? = some (.cells x.2 et fr)

/-- What is known of a package-level variable stays. -/
theorem WOK.kcE {g g' : G} {w w' : World} {H : List HE} (hw : WOK g w H) (he : Evo g w g' w') : ∀ x ∈ KC, ¬ g'.X x.1 ∧ (∀ o, o < x.2.size → g'.Pr x.1 o) ∧ ∃ et fr, w'.heap[x.1]? = some (.cells x.2 et fr) := fun x hx => by
  obtain ⟨h1, h2, et, fr, h3⟩ := hw.kc x hx
  have hb : x.1 < w.heap.size := (Array.getElem?_eq_some_iff.1 h3).1
  refine ⟨fun h => ?_, fun o ho => (he.pr _ _ (h2 o ho)).1, et, fr, by rw [he.keep _ hb h1]; exact h3⟩
  rcases he.x _ h with h | h
  · exact h1 h
  · omega
theorem Evo.refl (g : G) (w : World) : Evo g w g w where
  same := ⟨rfl, rfl, rfl⟩
  size := Nat.le_refl _
  pr := fun _ _ h => ⟨h, rfl⟩
  prn := fun _ _ h => .inl h
  x := fun _ h => .inl h
  keep := fun _ _ _ => rfl
  σ := fun _ _ h => h
  τ := fun _ m a cap h => ⟨m, a, cap, h, .inr ⟨rfl, rfl, rfl⟩⟩

theorem Evo.trans {g g' g'' : G} {w w' w'' : World} (h : Evo g w g' w') (h' : Evo g' w' g'' w'') : Evo g w g'' w'' where
  same := ⟨h'.same.1.trans h.same.1, h'.same.2.1.trans h.same.2.1, h'.same.2.2.trans h.same.2.2⟩
  size := Nat.le_trans h.size h'.size
  pr := fun b o hp => by
    obtain ⟨h1, h2⟩ := h.pr b o hp
    obtain ⟨h3, h4⟩ := h'.pr b o h1
    exact ⟨h3, h4.trans h2⟩
  prn := fun b o hp => by
    have := h.size
    rcases h'.prn b o hp with h1 | h1 | h1
    · exact h.prn b o h1
    · rcases h.x b h1 with h2 | h2
      · exact .inr (.inl h2)
      · exact .inr (.inr h2)
    · exact .inr (.inr (by omega))
  x := fun b hx => by
    have := h.size
    rcases h'.x b hx with h1 | h1
    · exact h.x b h1
    · exact .inr (by omega)
  keep := fun b hb hx => by
    have hs := h.size
    have hx' : ¬ g'.X b := fun hc => by
      rcases h.x b hc with h1 | h1
      · exact hx h1
      · omega
    exact (h'.keep b (by omega) hx').trans (h.keep b hb hx)
  σ := fun id b hb => h'.σ id b (h.σ id b hb)
  τ := fun id m a cap ht => by
    obtain ⟨m1, a1, c1, e1, o1⟩ := h.τ id m a cap ht
    obtain ⟨m2, a2, c2, e2, o2⟩ := h'.τ id m1 a1 c1 e1
    refine ⟨m2, a2, c2, e2, ?_⟩
    rcases o1 with o1 | ⟨rfl, rfl, rfl⟩
    · rcases o2 with o2 | ⟨rfl, rfl, rfl⟩
      · exact .inl (by omega)
      · exact .inl o1
    · exact o2

theorem RepD.mono {Pr Pr' : Nat → Nat → Prop} {w w' : World} (h : ∀ b o, Pr b o → Pr' b o ∧ w'.cell? ⟨b, o, none⟩ = w.cell? ⟨b, o, none⟩)
    {x : D} {r : Value} (hr : RepD Pr w x r) : RepD Pr' w' x r := by
  induction hr with
  | bool b => exact .bool b
  | int k n => exact .int k n
  | str s => exact .str s
  | raw v => exact .raw v
  | agg l arr hs _ ih => exact .agg l arr hs ih
  | tup l arr hs _ ih => exact .tup l arr hs ih
  | sl l a cap s f hs hc hrow _ ih =>
    refine .sl l a cap s f hs hc (fun hne => ?_) ih
    obtain ⟨b, o, ha, hk⟩ := hrow hne
    exact ⟨b, o, ha, fun k hlt => ⟨(h _ _ (hk k hlt).1).1, (h _ _ (hk k hlt).1).2.trans (hk k hlt).2⟩⟩

theorem Rep.monoW {g g' : G} {w w' : World} (h : EvoW g w g' w') {x : V} {r : Value} (hr : Rep g w x r) : Rep g' w' x r := by
  induction hr with
  | d hd => exact .d (hd.mono h.pr)
  | hs ht heq =>
    obtain ⟨m', a', cap', e', o'⟩ := h.τ _ _ _ _ ht
    refine .hs e' (fun h0 => ?_)
    rcases o' with o' | ⟨rfl, rfl, rfl⟩
    · omega
    · exact heq h0
  | ptr hb => exact .ptr (h.σ _ _ hb)
  | mp hb => exact .mp (h.σ _ _ hb)
  | vp hk hd => exact .vp (fun k hlt => ⟨(h.pr _ _ (hk k hlt).1).1, (h.pr _ _ (hk k hlt).1).2.trans (hk k hlt).2⟩) (fun k x hx => (hd k x hx).mono h.pr)
  | tk hd ht hle heq =>
    obtain ⟨m', a', cap', e', o'⟩ := h.τ _ _ _ _ ht
    refine .tk (hd.mono h.pr) e' ?_ (fun hl => ?_)
    · rcases o' with o' | ⟨rfl, _, _⟩ <;> omega
    · rcases o' with o' | ⟨rfl, rfl, rfl⟩
      · omega
      · exact heq hl
  | ex hd => exact .ex (hd.mono h.pr)
  | nil => exact .nil
  | fn hs _ ih => exact .fn hs ih
  | agg hs _ ih => exact .agg hs ih
  | tup hs _ ih => exact .tup hs ih
  | when h1 h2 ih => exact .when ih h2
  | any => exact .any

/-- What a call of function f comes to, over this heap. -/
def ACall (P : Program) (f : FuncId) (args : List V) (H : List HE) (R : V → List HE → Prop) : Prop :=
  ∀ (g : G) (w : World) (vals : Array Value), WOK g w H → vals.size = args.length → (∀ (i : Nat) x v, args[i]? = some x → vals[i]? = some v → Rep g w x v) →
    Calls P f vals w fun e w' => ∃ rv res g' H', e = .returned rv ∧ WOK g' w' H' ∧ Evo g w g' w' ∧ Rep g' w' res rv ∧ R res H'

/-- A call by value: data in, data out, nothing else. -/
def Fn (P : Program) (f : FuncId) (args : List D) (res : D) : Prop := ACall P f (args.map .d) [] fun r _ => r = .d res
theorem Rep.mono {g g' : G} {w w' : World} (h : Evo g w g' w') {x : V} {r : Value} (hr : Rep g w x r) : Rep g' w' x r := hr.monoW h.w

theorem ACall.mono {P : Program} {f : FuncId} {args : List V} {H : List HE} {R R' : V → List HE → Prop} (h : ACall P f args H R) (hr : ∀ r H', R r H' → R' r H') : ACall P f args H R' :=
  fun g w vals hw hs ha => (h g w vals hw hs ha).mono fun _ _ ⟨rv, res, g', H', h1, h2, h3, h4, h5⟩ => ⟨rv, res, g', H', h1, h2, h3, h4, hr _ _ h5⟩

theorem Fn.at {P : Program} {f : FuncId} {args : List D} {res : D} (h : Fn P f args res) (H : List HE) :
    ACall P f (args.map .d) H fun r H' => r = .d res ∧ H' = H := by
  intro g w vals hw hs ha
  let g0 : G := { σ := fun _ => none, τ := fun _ => none, υ := fun _ _ => False, X := fun _ => False, Pr := g.Pr }
  have hw0 : WOK g0 w [] := by
    refine ⟨hw.pr, fun b hb => hb.elim, ?_, ?_, ?_, ?_, ?_, ?_, fun _ _ => ⟨rfl, rfl, fun _ h => h⟩, fun x hx => ⟨fun h => h, (hw.kc x hx).2⟩⟩ <;> intros <;> simp_all
  have ha0 : ∀ (i : Nat) x v, (args.map V.d)[i]? = some x → vals[i]? = some v → Rep g0 w x v := by
    intro i x v hx hv
    have := ha i x v hx hv
    simp only [List.getElem?_map, Option.map_eq_some_iff] at hx
    obtain ⟨y, _, rfl⟩ := hx
    cases this with
    | d hd => exact .d hd
  refine (h g0 w vals hw0 hs ha0).mono ?_
  rintro e w' ⟨rv, r, g', H', rfl, hw', he, hr, rfl⟩
  have keep : ∀ b, b < w.heap.size → w'.heap[b]? = w.heap[b]? := fun b hb => he.keep b hb (fun h => h)
  let g2 : G := { σ := g.σ, τ := g.τ, υ := g.υ, X := g.X, Pr := g'.Pr }
  have hold : ∀ b o, g'.Pr b o → b < w.heap.size → g.Pr b o := by
    intro b o hp hb
    rcases he.prn b o hp with h1 | h1 | h1
    · exact h1
    · exact h1.elim
    · omega
  have hev : Evo g w g2 w' := {
    same := he.same
    size := he.size
    pr := he.pr
    prn := fun b o hp => by
      rcases he.prn b o hp with h1 | h1 | h1
      · exact .inl h1
      · exact h1.elim
      · exact .inr (.inr h1)
    x := fun b hb => .inl hb
    keep := fun b hb _ => keep b hb
    σ := fun _ _ h => h
    τ := fun _ m a cap h => ⟨m, a, cap, h, .inr ⟨rfl, rfl, rfl⟩⟩ }
  refine ⟨rv, .d res, g2, H, rfl, ?_, hev, ?_, rfl, rfl⟩
  · refine ⟨hw'.pr, fun b hb => Nat.lt_of_lt_of_le (hw.xs b hb) he.size, hw.blk, hw.sep, ?_, ?_, ?_, ?_, hw.free, hw.kcE hev⟩
    · intro id c hc
      obtain ⟨b, arr, et, h1, h2, h3, h4, h5⟩ := hw.row id c hc
      have hb : b < w.heap.size := hw.xs b (hw.blk id _ b hc h1)
      exact ⟨b, arr, et, h1, (keep b hb).trans h2, h3, fun k x v hx hv => (h4 k x v hx hv).mono hev, fun o hp => h5 o (hold b o hp hb)⟩
    · intro id n e s hn
      obtain ⟨a, cap, h1, h2, h2', h3⟩ := hw.tok id n e s hn
      refine ⟨a, cap, h1, h2, h2', fun hlt => ?_⟩
      obtain ⟨b, arr, e1, e2, e3, e4⟩ := h3 hlt
      have hb : b < w.heap.size := hw.xs _ (hw.blk id _ b hn (by simp [G.blk, h1, e1, hlt]))
      exact ⟨b, arr, e1, (keep _ hb).trans e2, e3, fun o hp => e4 o (hold _ o hp hb)⟩
    · intro id l e s hn
      obtain ⟨a, cap, h1, h2, h2', h3⟩ := hw.lst id l e s hn
      refine ⟨a, cap, h1, h2, h2', fun hlt => ?_⟩
      obtain ⟨b, arr, e1, e0, e2, e3, e4, e5⟩ := h3 hlt
      have hb : b < w.heap.size := hw.xs _ (hw.blk id _ b hn (by simp [G.blk, h1, e1, hlt]))
      exact ⟨b, arr, e1, e0, (keep _ hb).trans e2, e3, fun o hp => e4 o (hold _ o hp hb), fun k x v hx hv => (e5 k x v hx hv).mono hev.pr⟩
    · intro id x hx
      obtain ⟨b, h1, h2, h3, h4⟩ := hw.ob id x hx
      have hb : b < w.heap.size := hw.xs b (hw.blk id _ b hx (.inl h1))
      have hbu : ∀ b', g.υ id b' → b' < w.heap.size := fun b' h => hw.xs b' (hw.blk id _ b' hx (.inr h))
      exact ⟨b, h1, x.st hev.w rfl rfl (keep b hb) (fun b' h => keep b' (hbu b' h)) h2, fun o hp => h3 o (hold b o hp hb), fun b' o h hp => h4 b' o h (hold b' o hp (hbu b' h))⟩
  · cases hr with
    | d hd => exact .d hd

end Go.Proofs.YtindppnanjcoaaaGreatDoor.Ab
end
section
namespace Go.Proofs.YtindppnanjcoaaaGreatDoor.Ab
open Go

structure St where
  env : Nat → V
  H : List HE

structure FC where
  P : Program
  n : Nat
  g0 : G
  w0 : World

def Sim (F : FC) (st : St) (a : Act) (w : World) : Prop :=
  a.defers = [] ∧ a.tmps.size = F.n ∧ ∃ g, WOK g w st.H ∧ Evo F.g0 F.w0 g w ∧ ∀ i, Rep g w (st.env i) (a.tmps.getD i undef)

def upd (E : Nat → V) (d : Nat) (v : V) : Nat → V := fun i => cond (Nat.beq i d) v (E i)
def updO (E : Nat → V) : Option Nat → V → Nat → V
  | some d, v => upd E d v
  | none, _ => E

theorem upd_same (E : Nat → V) (d : Nat) (v : V) : upd E d v d = v := by simp [upd]
theorem upd_ne (E : Nat → V) {d i : Nat} (v : V) (h : i ≠ d) : upd E d v i = E i := by
  have : Nat.beq i d = false := by rw [← Bool.not_eq_true, Nat.beq_eq]; exact h
  simp [upd, this]

def absC : Value → D
  | .bool b => .bool b
  | .int k n => .int k n
  | .string s => .str s.data.toList
  | .slice none 0 0 => .sl []
  | v => .raw v

def absD : Value → D
  | .agg cs => .agg (cs.toList.map absC)
  | v => absC v

def absV : Value → V
  | .slice none 0 0 => .ex []
  | v => .d (absD v)

def absO : Value → V
  | .slice none 0 0 => .nil
  | v => .d (absD v)

def ρ (E : Nat → V) : Operand → V
  | .tmp t => E t
  | .const v => absO v
  | .func f => .fn (.func f) []
  | .global _ => .any

theorem RepD.absC (Pr : Nat → Nat → Prop) (w : World) (v : Value) : RepD Pr w (absC v) v := by
  unfold Ab.absC
  split
  · exact .bool _
  · exact .int _ _
  · rename_i s; exact .str s.data.toList
  · exact .sl [] none 0 0 (fun _ => undef) (by simp) (by simp) (by simp) (by simp [D.flat])
  · exact .raw _

theorem RepD.absD (Pr : Nat → Nat → Prop) (w : World) (v : Value) : RepD Pr w (absD v) v := by
  unfold Ab.absD
  split
  · rename_i cs
    refine .agg _ cs (by simp) (fun i x v hx hv => ?_)
    simp only [List.getElem?_map, Array.getElem?_toList, hv, Option.map_some, Option.some.injEq] at hx
    rw [← hx]; exact RepD.absC Pr w v
  · exact RepD.absC Pr w _

theorem Rep.absV (g : G) (w : World) (v : Value) : Rep g w (absV v) v := by
  unfold Ab.absV
  split
  · exact .ex (.sl [] none 0 0 (fun _ => undef) (by simp) (by simp) (by simp) (by simp [D.flat]))
  · exact .d (RepD.absD _ _ _)

theorem Rep.absO (g : G) (w : World) (v : Value) : Rep g w (absO v) v := by
  unfold Ab.absO
  split
  · exact .nil
  · exact .d (RepD.absD _ _ _)

theorem Rep.eval {g : G} {w : World} {E : Nat → V} {a : Act} (h : ∀ i, Rep g w (E i) (a.tmps.getD i undef)) (x : Operand) : Rep g w (ρ E x) (a.eval x) := by
  cases x with
  | tmp t => exact h t
  | const v => exact Rep.absO g w v
  | func f => exact .fn (by simp) (by simp)
  | global _ => exact .any

/-- A statement, from an abstract state on. -/
def AW (F : FC) (c : Code) (Q : Exit → St → Prop) (st : St) : Prop :=
  ∀ a w, Sim F st a w → c.wp F.P (fun e a' w' => ∃ st', Sim F st' a' w' ∧ Q e st') a w

def thenQ (K : St → Prop) (Q : Exit → St → Prop) : Exit → St → Prop
  | .normal, s => K s
  | e, s => Q e s

def blockQ (id : Nat) (Q : Exit → St → Prop) : Exit → St → Prop
  | .exit id', s => cond (Nat.beq id' id) (Q .normal s) (Q (.exit id') s)
  | e, s => Q e s

section
variable {F : FC} {Q : Exit → St → Prop} {st : St}

theorem AW.mono {c : Code} {Q' : Exit → St → Prop} (h : AW F c Q st) (hq : ∀ e s, Q e s → Q' e s) : AW F c Q' st :=
  fun a w hs => wp_mono (h a w hs) fun _ _ _ ⟨st', h1, h2⟩ => ⟨st', h1, hq _ _ h2⟩

theorem AW.skip (h : Q .normal st) : AW F .skip Q st := fun _ _ hs => wp_skip ⟨st, hs, h⟩
theorem AW.label {l : Nat} (h : Q .normal st) : AW F (.label l) Q st := fun _ _ hs => wp_label ⟨st, hs, h⟩
theorem AW.exit {id : Nat} (h : Q (.exit id) st) : AW F (.exit id) Q st := fun _ _ hs => wp_exit ⟨st, hs, h⟩
theorem AW.ret (h : Q .ret st) : AW F .ret Q st := fun _ _ hs => wp_ret ⟨st, hs, h⟩

theorem AW.seq {x y : Code} (h : AW F x (thenQ (AW F y Q) Q) st) : AW F (.seq x y) Q st := by
  intro a w hs
  refine wp_seq (wp_mono (h a w hs) ?_)
  rintro e a' w' ⟨st', h1, h2⟩
  cases e with
  | normal => exact h2 a' w' h1
  | exit id => exact ⟨st', h1, h2⟩
  | goto l => exact ⟨st', h1, h2⟩
  | ret => exact ⟨st', h1, h2⟩
  | panic c => exact ⟨st', h1, h2⟩
  | outgrown => exact ⟨st', h1, h2⟩

theorem AW.block {id : Nat} {c : Code} (h : AW F c (blockQ id Q) st) : AW F (.block id c) Q st := by
  intro a w hs
  refine wp_block (wp_mono (h a w hs) ?_)
  rintro e a' w' ⟨st', h1, h2⟩
  cases e with
  | exit id' =>
    by_cases hid : id' = id
    · subst hid
      simp only [blockQ, Nat.beq_refl, cond_true] at h2
      simp only [Exit.inBlock, if_true]
      exact ⟨st', h1, h2⟩
    · have hb : Nat.beq id' id = false := by rw [← Bool.not_eq_true, Nat.beq_eq]; exact hid
      simp only [blockQ, hb, cond_false] at h2
      simp only [Exit.inBlock, if_neg hid]
      exact ⟨st', h1, h2⟩
  | normal => exact ⟨st', h1, h2⟩
  | goto l => exact ⟨st', h1, h2⟩
  | ret => exact ⟨st', h1, h2⟩
  | panic c => exact ⟨st', h1, h2⟩
  | outgrown => exact ⟨st', h1, h2⟩

theorem AW.cond {c : Operand} {x y : Code} {b : Bool} (hc : ρ st.env c = .d (.bool b)) (ht : b = true → AW F x Q st) (hf : b = false → AW F y Q st) :
    AW F (.cond c x y) Q st := by
  intro a w hs
  obtain ⟨h1, h2, g, h3, h4, h5⟩ := hs
  have he := Rep.eval h5 c
  rw [hc] at he
  cases he with
  | d hd =>
    generalize hv : a.eval c = v at hd
    cases hd with
    | bool b => exact wp_cond_split hv (fun hb => ht hb a w ⟨h1, h2, g, h3, h4, h5⟩) (fun hb => hf hb a w ⟨h1, h2, g, h3, h4, h5⟩)

/-- A loop: at its head the state is 'S x' for some x; a measure falls. -/
theorem AW.loop {α : Type} {c : Code} (I : α → Prop) (S : α → St) (μ : α → Nat) (x₀ : α) (h₀ : I x₀)
    (enter : ∀ a w, Sim F st a w → Sim F (S x₀) a w)
    (round : ∀ x, I x → AW F c (thenQ (fun s => ∃ x', I x' ∧ μ x' < μ x ∧ ∀ a w, Sim F s a w → Sim F (S x') a w) Q) (S x)) : AW F (.loop c) Q st := by
  intro a w hs b k cs
  have key : ∀ n x, μ x = n → I x → ∀ a w, Sim F (S x) a w →
      ∃ e a' w', (∃ st', Sim F st' a' w' ∧ Q e st') ∧ Arrives F.P (lone (b.at a (.code c :: .inLoop c :: k)) cs w) b k cs e a' w' := by
    intro n
    induction n using Nat.strongRecOn with
    | _ n ih =>
      intro x hn hx a w hsim
      obtain ⟨e, a₁, w₁, ⟨st', h1, h2⟩, harr⟩ := round x hx a w hsim b (.inLoop c :: k) cs
      cases e with
      | normal =>
        obtain ⟨x', hx', hlt, hsim'⟩ := h2
        obtain ⟨e₂, a₂, w₂, hq₂, harr₂⟩ := ih (μ x') (hn ▸ hlt) x' rfl hx' a₁ w₁ (hsim' a₁ w₁ h1)
        exact ⟨e₂, a₂, w₂, hq₂, .of_steps (Steps.trans harr (.one step_inLoop)) harr₂⟩
      | exit id => exact ⟨_, a₁, w₁, ⟨st', h1, h2⟩, .pass (x := .inLoop c) rfl (fun _ _ => .inl (by simp)) harr⟩
      | goto l => exact ⟨_, a₁, w₁, ⟨st', h1, h2⟩, .pass (x := .inLoop c) rfl (fun _ _ => .inl (by simp)) harr⟩
      | ret => exact ⟨_, a₁, w₁, ⟨st', h1, h2⟩, .pass (x := .inLoop c) rfl (fun _ _ => .inl (by simp)) harr⟩
      | panic ch => exact ⟨_, a₁, w₁, ⟨st', h1, h2⟩, .pass (x := .inLoop c) rfl (fun _ _ => .inl (by simp)) harr⟩
      | outgrown => exact ⟨_, a₁, w₁, ⟨st', h1, h2⟩, .pass (x := .inLoop c) rfl (fun _ _ => .inl (by simp)) harr⟩
  obtain ⟨e, a', w', hq, harr⟩ := key _ x₀ rfl h₀ a w (enter a w hs)
  exact ⟨e, a', w', hq, .of_steps (.one step_loop) harr⟩

/-- The operations of a region, one after the other. -/
def wpL (P : Program) (ops : Array Oper) (Q : Exit → Act → World → Prop) : List Oper → Act → World → Prop
  | [], a, w => Q .normal a w
  | o :: rest, a, w => if Region.wanted o (yielded ops a.tmps) then o.wp P a w (wpL P ops Q rest) Q else wpL P ops Q rest (a.put o.dst undef) w

theorem wpOps_of_wpL {P : Program} {ops : Array Oper} {Q : Exit → Act → World → Prop} : ∀ (os : List Oper) (k : Nat), (∀ j : Nat, os[j]? = ops[k + j]?) → ∀ a w,
    wpL P ops Q os a w → wpOps P ops Q (List.range' k os.length) a w
  | [], _, _, _, _, h => h
  | o :: rest, k, hj, a, w, h => by
    have h0 : ops[k]? = some o := by have := hj 0; simpa using this.symm
    have ih := wpOps_of_wpL (P := P) (ops := ops) (Q := Q) rest (k + 1) (fun j => by have := hj (j + 1); rw [List.getElem?_cons_succ] at this; rw [this]; congr 1; omega)
    simp only [List.length_cons, List.range'_succ, wpOps, h0]
    simp only [wpL] at h
    split
    · rename_i hw
      simp only [hw, if_true] at h
      exact .inl (Oper.wp_mono (fun a w => ih a w) h)
    · rename_i hw
      simp only [hw] at h
      exact ih _ _ h

/-- What an operation comes to when it is run. -/
def OpRuns (P : Program) (o : Oper) (r : Operand → Value) (w : World) (K : Value → World → Prop) : Prop :=
  match (execOp r o).run P w with
  | .ok (.value v) w' => K v w'
  | .ok .skip w' => K undef w'
  | .ok (.enter f args) w' => Calls P f args w' fun e w'' => ∃ v, e = .returned v ∧ K v w''
  | _ => False

theorem OpRuns.wp {P : Program} {o : Oper} {a : Act} {w : World} {K : Value → World → Prop} {next : Act → World → Prop} {Q : Exit → Act → World → Prop}
    (h : OpRuns P o a.eval w K) (hk : ∀ v w', K v w' → next (a.put o.dst v) w') : o.wp P a w next Q := by
  unfold OpRuns at h
  unfold Oper.wp
  generalize (execOp a.eval o).run P w = r at *
  cases r with
  | ok n w' =>
    cases n <;> simp only [Oper.upon] at h ⊢ <;> try exact h.elim
    case value v => exact hk _ _ h
    case skip => exact hk _ _ h
    case enter f args => exact h.mono fun e w'' ⟨v, he, hK⟩ => by subst he; exact hk _ _ hK
  | halt x w' => simp only at h

theorem Oper.wp_mono2 {P : Program} {o : Oper} {a : Act} {w : World} {K K' : Act → World → Prop} {Q Q' : Exit → Act → World → Prop} (h : ∀ a w, K a w → K' a w) (_hq : ∀ c a w, Q c a w → c = .normal → Q' c a w)
    (hQ : ∀ c a w, Q c a w → c = .normal) (hh : o.wp P a w K Q) : o.wp P a w K' Q' := by
  unfold Oper.wp at *
  generalize (execOp a.eval o).run P w = r at *
  cases r with
  | ok n w' =>
    cases n <;> simp only [Oper.upon] at hh ⊢ <;>
      first
        | exact h _ _ hh
        | exact Calls.mono hh (fun e w'' he => by
            cases e with
            | returned v => exact h _ _ he
            | panicked c => have := hQ _ _ _ he; cases this
            | outgrown => obtain ⟨a0, w0, h0⟩ := he; have := hQ _ _ _ h0; cases this)
        | exact Rows.mono hh (fun _ _ he => h _ _ he)
  | halt x w' =>
    cases x <;> simp only [Oper.upon] at hh ⊢ <;> first
      | exact hh
      | (have := hQ _ _ _ hh; cases this)

/-- An operation over abstract states: its value, and the heap behind it. -/
def OpV (P : Program) (o : Op) (ty : TypeId) (ρ : Operand → V) (H : List HE) (v : V) (H' : List HE) : Prop :=
  ∀ g w r pos after guard dst, WOK g w H → (∀ x, x ∈ o.operands → Rep g w (ρ x) (r x)) →
    OpRuns P ⟨dst, o, ty, pos, after, guard⟩ r w fun rv w' => ∃ g', WOK g' w' H' ∧ Evo g w g' w' ∧ Rep g' w' v rv

/-- The operations that are left of a region. -/
def AL (F : FC) (ops : Array Oper) (K : St → Prop) (os : List Oper) (st : St) : Prop :=
  ∀ a w, Sim F st a w → wpL F.P ops (fun e a' w' => e = .normal ∧ ∃ st', Sim F st' a' w' ∧ K st') os a w

variable {K : St → Prop}

theorem Sim.put {a : Act} {w w' : World} {g g' : G} {dst : Option Nat} {v : V} {rv : Value} {H' : List HE} (h1 : a.defers = []) (h2 : a.tmps.size = F.n)
    (h4 : Evo F.g0 F.w0 g w) (h5 : ∀ i, Rep g w (st.env i) (a.tmps.getD i undef)) (hd : ∀ d, dst = some d → d < F.n) (hw : WOK g' w' H') (he : Evo g w g' w') (hr : Rep g' w' v rv) :
    Sim F ⟨updO st.env dst v, H'⟩ (a.put dst rv) w' := by
  cases dst with
  | none => exact ⟨h1, h2, g', hw, h4.trans he, fun i => (h5 i).mono he⟩
  | some d =>
    have hlt : d < a.tmps.size := by rw [h2]; exact hd d rfl
    refine ⟨h1, by simpa [Act.put] using h2, g', hw, h4.trans he, fun i => ?_⟩
    by_cases hi : i = d
    · subst hi
      simp only [updO, upd_same, Act.put]
      simp [Array.getD, hlt, hr]
    · simp only [updO, upd_ne _ _ hi, Act.put]
      have : (a.tmps.setIfInBounds d rv).getD i undef = a.tmps.getD i undef := by
        simp [Array.getD_eq_getD_getElem?, Array.getElem?_setIfInBounds_ne (Ne.symm hi)]
      rw [this]; exact (h5 i).mono he

def dlt : Option Nat → Nat → Bool
  | none, _ => true
  | some d, n => Nat.blt d n

theorem dlt_lt {dst : Option Nat} {n : Nat} (h : dlt dst n = true) : ∀ d, dst = some d → d < n := by
  rintro d rfl
  simpa [dlt, Nat.blt_eq] using h

theorem AL.nil {ops : Array Oper} (h : K st) : AL F ops K [] st := fun _ _ hs => ⟨rfl, st, hs, h⟩

theorem AL.step {ops : Array Oper} {dst : Option Nat} {o : Op} {ty : TypeId} {pos : String} {after : Array Edge} {rest : List Oper} {v : V} {H' : List HE}
    (hd : dlt dst F.n = true) (h : OpV F.P o ty (ρ st.env) st.H v H') (k : AL F ops K rest ⟨updO st.env dst v, H'⟩) : AL F ops K (⟨dst, o, ty, pos, after, none⟩ :: rest) st := by
  have hd := dlt_lt hd
  rintro a w ⟨h1, h2, g, h3, h4, h5⟩
  simp only [wpL, Region.wanted, if_true]
  refine OpRuns.wp (h g w a.eval pos after none dst h3 (fun x _ => Rep.eval h5 x)) ?_
  rintro rv w' ⟨g', hw', he, hr⟩
  exact k _ _ (Sim.put h1 h2 h4 h5 hd hw' he hr)

theorem yielded_some {g : G} {w : World} {E : Nat → V} {ops : Array Oper} {tmps : Array Value} {j t : Nat} (h5 : ∀ i, Rep g w (E i) (tmps.getD i undef)) (hj : (ops[j]?).bind (·.dst) = some t) (ht : t < tmps.size) :
    (∀ b, E t = .d (.bool b) → yielded ops tmps j = some b) ∧
    (∀ p b, E t = .when p (.d (.bool b)) → yielded ops tmps j = if p = true then some b else none) := by
  have hg : tmps[t]? = some (tmps.getD t undef) := by simp [Array.getD, ht]
  have h := h5 t
  refine ⟨fun b hb => ?_, fun p b hb => ?_⟩
  · rw [hb] at h
    cases h with
    | d hd =>
      generalize hv : tmps.getD t undef = v at *
      cases hd
      simp [yielded, hj, hg]
  · rw [hb] at h
    cases h with
    | «when» h1 h2 =>
      cases p with
      | true =>
        cases h1 rfl with
        | d hd =>
          generalize hv : tmps.getD t undef = v at *
          cases hd
          simp [yielded, hj, hg]
      | false =>
        simp only [h2 rfl] at hg
        simp [yielded, hj, hg, undef]

theorem AL.stepG {ops : Array Oper} {dst : Option Nat} {o : Op} {ty : TypeId} {pos : String} {after : Array Edge} {rest : List Oper} {v : V} {j t : Nat} {want b q : Bool}
    (hj : (ops[j]?).bind (·.dst) = some t) (htn : Nat.blt t F.n = true) (hb : st.env t = .d (.bool b)) (hq : q = (b == want)) (hd : dlt dst F.n = true)
    (h : b = want → OpV F.P o ty (ρ st.env) st.H v st.H) (k : AL F ops K rest ⟨updO st.env dst (.when q v), st.H⟩) :
    AL F ops K (⟨dst, o, ty, pos, after, some (j, want)⟩ :: rest) st := by
  have hd := dlt_lt hd
  have htn : t < F.n := by simpa [Nat.blt_eq] using htn
  subst hq
  rintro a w ⟨h1, h2, g, h3, h4, h5⟩
  have hy := (yielded_some (ops := ops) h5 hj (by rw [h2]; exact htn)).1 b hb
  simp only [wpL, Region.wanted, hy]
  by_cases hbw : b = want
  · subst hbw
    simp only [beq_self_eq_true, if_true]
    refine OpRuns.wp (h rfl g w a.eval pos after _ dst h3 (fun x _ => Rep.eval h5 x)) ?_
    rintro rv w' ⟨g', hw', he, hr⟩
    exact k _ _ (Sim.put h1 h2 h4 h5 hd hw' he (.when (fun _ => hr) (by simp)))
  · have hf : (some b == some want) = false := by simpa using hbw
    have hf2 : (b == want) = false := by simpa using hbw
    simp only [hf, Bool.false_eq_true, if_false]
    exact k _ _ (Sim.put h1 h2 h4 h5 hd h3 (.refl _ _) (.when (fun h => by rw [hf2] at h; cases h) (fun _ => rfl)))

theorem beqT (b : Bool) : b = (b == true) := by cases b <;> rfl
theorem beqF (b : Bool) : (!b) = (b == false) := by cases b <;> rfl

section
variable {ops : Array Oper} {dst : Option Nat} {o : Op} {ty : TypeId} {pos : String} {after : Array Edge} {rest : List Oper} {v : V} {j t : Nat} {b p : Bool}
theorem AL.stepT (hj : (ops[j]?).bind (·.dst) = some t) (htn : Nat.blt t F.n = true) (hb : st.env t = .d (.bool b)) (hd : dlt dst F.n = true)
    (h : b = true → OpV F.P o ty (ρ st.env) st.H v st.H) (k : AL F ops K rest ⟨updO st.env dst (.when b v), st.H⟩) : AL F ops K (⟨dst, o, ty, pos, after, some (j, true)⟩ :: rest) st := AL.stepG hj htn hb (beqT b) hd h k
theorem AL.stepF (hj : (ops[j]?).bind (·.dst) = some t) (htn : Nat.blt t F.n = true) (hb : st.env t = .d (.bool b)) (hd : dlt dst F.n = true)
    (h : b = false → OpV F.P o ty (ρ st.env) st.H v st.H) (k : AL F ops K rest ⟨updO st.env dst (.when (!b) v), st.H⟩) : AL F ops K (⟨dst, o, ty, pos, after, some (j, false)⟩ :: rest) st := AL.stepG hj htn hb (beqF b) hd h k
end

theorem AL.run {ops : Array Oper} {id : Nat} (h : AL F ops K ops.toList st) {Q : Exit → St → Prop} (hK : ∀ s, K s → Q .normal s) : AW F (.region id ops false) Q st := by
  intro a w hs
  refine wp_region ?_
  have := wpOps_of_wpL (P := F.P) (ops := ops) (Q := fun e a' w' => ∃ st', Sim F st' a' w' ∧ Q e st') ops.toList 0 (by simp) a w ?_
  · rwa [List.range_eq_range', ← Array.length_toList]
  · have h0 := h a w hs
    have mono : ∀ (os : List Oper) a w, wpL F.P ops (fun e a' w' => e = .normal ∧ ∃ st', Sim F st' a' w' ∧ K st') os a w → wpL F.P ops (fun e a' w' => ∃ st', Sim F st' a' w' ∧ Q e st') os a w := by
      intro os
      induction os with
      | nil => rintro a w ⟨_, st', h1, h2⟩; exact ⟨st', h1, hK _ h2⟩
      | cons o os ih =>
        intro a w h
        simp only [wpL] at h ⊢
        split
        · rename_i hw
          simp only [hw, if_true] at h
          exact Oper.wp_mono2 (fun a w => ih a w) (fun c a w hq _ => (by obtain ⟨rfl, st', h1, h2⟩ := hq; exact ⟨st', h1, hK _ h2⟩)) (fun c a w hq => hq.1) h
        · rename_i hw
          simp only [hw] at h
          exact ih _ _ h
    exact mono _ a w h0

theorem AW.region {id : Nat} {ops : Array Oper} (h : AL F ops (Q .normal) ops.toList st) : AW F (.region id ops false) Q st := AL.run h fun _ h => h
theorem AW.seqR {id : Nat} {ops : Array Oper} {y : Code} (h : AL F ops (AW F y Q) ops.toList st) : AW F (.seq (.region id ops false) y) Q st :=
  AW.seq (AL.run h fun _ h => h)

theorem nq {K : St → Prop} {s : St} (h : K s) : thenQ K Q .normal s := h
theorem tq_exit {K : St → Prop} {s : St} {id : Nat} (h : Q (.exit id) s) : thenQ K Q (.exit id) s := h
theorem tq_ret {K : St → Prop} {s : St} (h : Q .ret s) : thenQ K Q .ret s := h
theorem bq_n {id : Nat} {s : St} (h : Q .normal s) : blockQ id Q .normal s := h
theorem bq_ret {id : Nat} {s : St} (h : Q .ret s) : blockQ id Q .ret s := h
theorem bq_hit {id : Nat} {s : St} (h : Q .normal s) : blockQ id Q (.exit id) s := by simpa [blockQ] using h
end

end Go.Proofs.YtindppnanjcoaaaGreatDoor.Ab
end
section
namespace Go.Proofs.YtindppnanjcoaaaGreatDoor.Ab
open Go

def notAgg : TypeDesc → Bool
  | .struct _ | .array _ _ => false
  | _ => true

/-- Facts on types. -/
structure Sc (P : Program) (t : TypeId) : Prop where
  u : ∃ d, P.underlying t = some d ∧ notAgg d = true
  i : ∃ i, P.info? t = some i ∧ i.size = 1
structure Ag (P : Program) (t : TypeId) (n : Nat) : Prop where
  u : ∃ d, P.underlying t = some d ∧ notAgg d = false
  i : ∃ i, P.info? t = some i ∧ i.size = n
structure SlT (P : Program) (t e : TypeId) (s bytes : Nat) : Prop where
  u : P.underlying t = some (.slice e)
  i : ∃ i z, P.info? e = some i ∧ i.size = s ∧ i.bytes = bytes ∧ i.zero = some z ∧ z.cells.size = s
structure Fd (P : Program) (t k off : Nat) : Prop where
  u : ∃ fs f, P.underlying t = some (.struct fs) ∧ fs[k]? = some f ∧ f.offset = off ∧ ∃ i, P.info? f.type = some i ∧ i.size ≠ 0
structure Zr (P : Program) (t : TypeId) (cs : List Value) : Prop where
  z : ∃ i z, P.info? t = some i ∧ i.zero = some z ∧ z.cells.toList = cs ∧ i.size = cs.length

section
variable {P : Program} {ρ : Operand → V} {H : List HE} {ty : TypeId}

theorem run_sizeOf' {t : TypeId} {i : TypeInfo} (h : P.info? t = some i) (w : World) : (sizeOf t).run P w = .ok i.size w := by simp [sizeOf, typeInfo, h]
theorem run_zeroValue' {t : TypeId} {i : TypeInfo} {z : Value} (h : P.info? t = some i) (hz : i.zero = some z) (w : World) : (zeroValue t).run P w = .ok z w := by simp [zeroValue, typeInfo, h, hz]
theorem run_isAgg' {t : TypeId} {d : TypeDesc} (h : P.underlying t = some d) (w : World) : (isAgg t).run P w = .ok (!notAgg d) w := by
  simp only [isAgg, Sem.run_bind, run_underlying h, Result.andThen_ok]
  cases d <;> simp [notAgg]

theorem Addr.add_none (b o k : Nat) : (⟨b, o, none⟩ : Addr).add k = ⟨b, o + k, none⟩ := by
  unfold Addr.add; split <;> simp_all

theorem run_loadVar_one {t : TypeId} (h : Sc P t) {w : World} {b o : Nat} {v : Value} (hc : w.cell? ⟨b, o, none⟩ = some v) : (loadVar t ⟨b, o, none⟩).run P w = .ok v w := by
  obtain ⟨d, hu, hd⟩ := h.u
  simp [loadVar, run_isAgg' hu, hd, hc]

theorem run_loadVar_agg {t n : Nat} (h : Ag P t n) {w : World} {b o : Nat} {f : Nat → Value} (hc : ∀ k, k < n → w.cell? ⟨b, o + k, none⟩ = some (f k)) :
    (loadVar t ⟨b, o, none⟩).run P w = .ok (.agg ((List.range n).map f).toArray) w := by
  obtain ⟨d, hu, hd⟩ := h.u
  obtain ⟨i, hi, hs⟩ := h.i
  have := run_loadCells (P := P) w ⟨b, o, none⟩ n f (fun j hj => by rw [Addr.add_none]; exact hc j hj)
  simp [loadVar, run_isAgg' hu, hd, run_sizeOf' hi, hs, this]

/-- How an operand is read as data. -/
def V.asD1 : V → Option D
  | .d x => some x
  | .ex l => some (.sl l)
  | .tk _ l => some (.sl l)
  | .nil => some (.sl [])
  | _ => none

def optAll {α : Type} : List (Option α) → Option (List α)
  | [] => some []
  | some x :: r => (optAll r).map (x :: ·)
  | none :: _ => none

def V.asD2 : V → Option D
  | .agg cs => (optAll (cs.map V.asD1)).map .agg
  | v => v.asD1

def V.asD : V → Option D
  | .tup vs => (optAll (vs.map V.asD2)).map .tup
  | v => v.asD2

theorem optAll_get {α : Type} : ∀ {l : List (Option α)} {r : List α}, optAll l = some r → l.length = r.length ∧ ∀ (i : Nat) x, r[i]? = some x → l[i]? = some (some x)
  | [], r, h => by simp only [optAll, Option.some.injEq] at h; subst h; simp
  | none :: _, r, h => by simp [optAll] at h
  | some y :: t, r, h => by
    simp only [optAll, Option.map_eq_some_iff] at h
    obtain ⟨r', h1, rfl⟩ := h
    obtain ⟨h2, h3⟩ := optAll_get h1
    refine ⟨by simp [h2], fun i x hx => ?_⟩
    cases i with
    | zero => simpa using hx
    | succ i => simpa using h3 i x (by simpa using hx)

theorem Rep.asD1 {g : G} {w : World} {v : V} {r : Value} {x : D} (h : Rep g w v r) (hx : v.asD1 = some x) : RepD g.Pr w x r := by
  cases h with
  | nil =>
    simp only [V.asD1, Option.some.injEq] at hx
    subst hx
    exact .sl [] none 0 0 (fun _ => undef) (by simp) (by simp) (by simp) (by simp [D.flat])
  | _ => simp only [V.asD1, Option.some.injEq, reduceCtorEq] at hx <;> subst hx <;> assumption

theorem Rep.asD2 {g : G} {w : World} {v : V} {r : Value} {x : D} (h : Rep g w v r) (hx : v.asD2 = some x) : RepD g.Pr w x r := by
  cases v with
  | agg cs =>
    simp only [V.asD2, Option.map_eq_some_iff] at hx
    obtain ⟨l, h1, rfl⟩ := hx
    obtain ⟨h2, h3⟩ := optAll_get h1
    cases h with
    | agg hs hr =>
      refine .agg l _ (by simp at h2; omega) (fun i x v hx hv => ?_)
      have := h3 i x hx
      simp only [List.getElem?_map, Option.map_eq_some_iff] at this
      obtain ⟨y, hy, hyx⟩ := this
      exact (hr i y v hy hv).asD1 hyx
  | _ => exact Rep.asD1 h hx

theorem Rep.asD {g : G} {w : World} {v : V} {r : Value} {x : D} (h : Rep g w v r) (hx : v.asD = some x) : RepD g.Pr w x r := by
  cases v with
  | tup cs =>
    simp only [V.asD, Option.map_eq_some_iff] at hx
    obtain ⟨l, h1, rfl⟩ := hx
    obtain ⟨h2, h3⟩ := optAll_get h1
    cases h with
    | tup hs hr =>
      refine .tup l _ (by simp at h2; omega) (fun i x v hx hv => ?_)
      have := h3 i x hx
      simp only [List.getElem?_map, Option.map_eq_some_iff] at this
      obtain ⟨y, hy, hyx⟩ := this
      exact (hr i y v hy hv).asD2 hyx
  | _ => exact Rep.asD2 h hx

/-- An operand is this value, or is it where its guard has let it be. -/
inductive Is : V → V → Prop
  | r {v : V} : Is v v
  | w {p : Bool} {v : V} : p = true → Is (.when p v) v
  | n {p : Bool} {v : V} : p = false → Is (.when (!p) v) v
inductive As : V → D → Prop
  | r {v : V} {x : D} : v.asD = some x → As v x
  | w {p : Bool} {v : V} {x : D} : p = true → v.asD = some x → As (.when p v) x
  | n {p : Bool} {v : V} {x : D} : p = false → v.asD = some x → As (.when (!p) v) x

theorem Is.e {v u : V} (h : v = u) : Is v u := h ▸ .r
theorem Is.we {v u : V} {p : Bool} (hp : p = true) (h : v = .when p u) : Is v u := h ▸ .w hp
theorem As.we {v u : V} {p : Bool} {x : D} (hp : p = true) (h : v = .when p u) (hx : u.asD = some x) : As v x := h ▸ .w hp hx
theorem nt {b : Bool} (h : b = false) : (!b) = true := by rw [h]; rfl
theorem an {p b : Bool} (h1 : p = true) (h2 : b = true) : (p && b) = true := by rw [h1, h2]; rfl

theorem Is.rep {g : G} {w : World} {v u : V} {r : Value} (h : Is v u) (hr : Rep g w v r) : Rep g w u r := by
  cases h with
  | r => exact hr
  | w hp => cases hr with | «when» h1 h2 => exact h1 hp
  | n hp => cases hr with | «when» h1 h2 => exact h1 (by simp [hp])

theorem As.rep {g : G} {w : World} {v : V} {x : D} {r : Value} (h : As v x) (hr : Rep g w v r) : RepD g.Pr w x r := by
  cases h with
  | r h => exact hr.asD h
  | w hp h => cases hr with | «when» h1 h2 => exact (h1 hp).asD h
  | n hp h => cases hr with | «when» h1 h2 => exact (h1 (by simp [hp])).asD h

theorem OpV.of_val {o : Op} {v : V} (h : ∀ g w r, WOK g w H → (∀ x, x ∈ o.operands → Rep g w (ρ x) (r x)) →
    ∃ rv, (∀ pos after guard dst, (execOp r ⟨dst, o, ty, pos, after, guard⟩).run P w = .ok (.value rv) w) ∧ Rep g w v rv) : OpV P o ty ρ H v H := by
  intro g w r pos after guard dst hw hx
  obtain ⟨rv, h1, h2⟩ := h g w r hw hx
  unfold OpRuns
  rw [h1]
  exact ⟨g, hw, .refl _ _, h2⟩

/- The plain ones. -/
theorem op_move {x : Operand} {v : V} (h : Is (ρ x) v) : OpV P (.move x) ty ρ H v H :=
  OpV.of_val fun g w r hw hx => ⟨r x, fun _ _ _ _ => rfl, h.rep (hx x (by simp [Op.operands]))⟩
theorem op_assign {x : Operand} {v : V} (h : Is (ρ x) v) : OpV P (.assign x) ty ρ H v H :=
  OpV.of_val fun g w r hw hx => ⟨r x, fun _ _ _ _ => rfl, h.rep (hx x (by simp [Op.operands]))⟩
theorem op_moveD {x : Operand} {y : D} (h : Is (ρ x) (.d y)) : OpV P (.move x) ty ρ H (.d y) H := op_move h
theorem op_assignD {x : Operand} {y : D} (h : Is (ρ x) (.d y)) : OpV P (.assign x) ty ρ H (.d y) H := op_assign h
theorem op_moveE {x : Operand} {l : List D} (h : Is (ρ x) (.ex l)) : OpV P (.move x) ty ρ H (.ex l) H := op_move h
theorem op_assignE {x : Operand} {l : List D} (h : Is (ρ x) (.ex l)) : OpV P (.assign x) ty ρ H (.ex l) H := op_assign h
theorem op_moveT {x : Operand} {id : Nat} {l : List D} (h : Is (ρ x) (.tk id l)) : OpV P (.move x) ty ρ H (.tk id l) H := op_move h
theorem op_assignT {x : Operand} {id : Nat} {l : List D} (h : Is (ρ x) (.tk id l)) : OpV P (.assign x) ty ρ H (.tk id l) H := op_assign h
theorem op_moveF {x : Operand} {f : Go.Fn} {caps : List V} (h : Is (ρ x) (.fn f caps)) : OpV P (.move x) ty ρ H (.fn f caps) H := op_move h
theorem op_assignF {x : Operand} {f : Go.Fn} {caps : List V} (h : Is (ρ x) (.fn f caps)) : OpV P (.assign x) ty ρ H (.fn f caps) H := op_assign h
theorem Rep.nilEx {g : G} {w : World} {r : Value} (h : Rep g w .nil r) : Rep g w (.ex []) r := by
  cases h; exact .ex (.sl [] none 0 0 (fun _ => undef) (by simp) (by simp) (by simp) (by simp [D.flat]))
theorem op_assignN {x : Operand} (h : Is (ρ x) .nil) : OpV P (.assign x) ty ρ H (.ex []) H :=
  OpV.of_val fun _ _ r _ hx => ⟨r x, fun _ _ _ _ => rfl, (h.rep (hx x (by simp [Op.operands]))).nilEx⟩
theorem As.bool {g : G} {w : World} {v : V} {b : Bool} {r : Value} (h : As v (.bool b)) (hr : Rep g w v r) : r = .bool b := by
  cases h.rep hr; rfl
theorem As.int {g : G} {w : World} {v : V} {k : IntKind} {n : Int} {r : Value} (h : As v (.int k n)) (hr : Rep g w v r) : r = .int k n := by
  cases h.rep hr; rfl
theorem As.str {g : G} {w : World} {v : V} {s : List UInt8} {r : Value} (h : As v (.str s)) (hr : Rep g w v r) : r = .string ⟨s.toArray⟩ := by
  cases h.rep hr; rfl

theorem op_and {c a b : Operand} {p q : Bool} (hc : As (ρ c) (.bool p)) (ha : p = true → As (ρ a) (.bool q)) (hb : ρ b = .d (.bool false)) :
    OpV P (.pick c a b) ty ρ H (.d (.bool (p && q))) H :=
  OpV.of_val fun g w r hw hx => by
    have h1 := hc.bool (hx c (by simp [Op.operands]))
    have h2 := hx a (by simp [Op.operands])
    have h3 : r b = .bool false := (As.r (x := .bool false) (by rw [hb]; rfl)).bool (hx b (by simp [Op.operands]))
    cases p with
    | true =>
      have h4 := (ha rfl).bool h2
      exact ⟨.bool q, fun _ _ _ _ => by simp [execOp, h1, h4, asBool], by simpa using Rep.d (RepD.bool q)⟩
    | false => exact ⟨.bool false, fun _ _ _ _ => by simp [execOp, h1, h3, asBool], by simpa using Rep.d (RepD.bool false)⟩

theorem op_or {c a b : Operand} {p q : Bool} (hc : As (ρ c) (.bool p)) (ha : ρ a = .d (.bool true)) (hb : p = false → As (ρ b) (.bool q)) :
    OpV P (.pick c a b) ty ρ H (.d (.bool (p || q))) H :=
  OpV.of_val fun g w r hw hx => by
    have h1 := hc.bool (hx c (by simp [Op.operands]))
    have h2 := hx b (by simp [Op.operands])
    have h3 : r a = .bool true := (As.r (x := .bool true) (by rw [ha]; rfl)).bool (hx a (by simp [Op.operands]))
    cases p with
    | false =>
      have h4 := (hb rfl).bool h2
      exact ⟨.bool q, fun _ _ _ _ => by simp [execOp, h1, h4, asBool], by simpa using Rep.d (RepD.bool q)⟩
    | true => exact ⟨.bool true, fun _ _ _ _ => by simp [execOp, h1, h3, asBool], by simpa using Rep.d (RepD.bool true)⟩

theorem op_not {x : Operand} {t : TypeId} {b : Bool} (h : As (ρ x) (.bool b)) : OpV P (.unOp .not t x) ty ρ H (.d (.bool (!b))) H :=
  OpV.of_val fun g w r hw hx => ⟨.bool (!b), fun _ _ _ _ => by simp [execOp, h.bool (hx x (by simp [Op.operands])), Op.unary], .d (.bool _)⟩

/- Integers. -/
section ints
variable {x y : Operand} {t u : TypeId} {k : IntKind} {a b : Int}
theorem op_addw (hx : As (ρ x) (.int k a)) (hy : As (ρ y) (.int k b)) : OpV P (.binOp .add t x y u) ty ρ H (.d (.int k (k.wrap (a + b)))) H :=
  OpV.of_val fun g w r hw h => ⟨.int k (k.wrap (a + b)), fun _ _ _ _ => by simp [execOp, hx.int (h x (by simp [Op.operands])), hy.int (h y (by simp [Op.operands])), eqGuard, binOp, Op.intArith], .d (.int _ _)⟩
theorem op_subw (hx : As (ρ x) (.int k a)) (hy : As (ρ y) (.int k b)) : OpV P (.binOp .sub t x y u) ty ρ H (.d (.int k (k.wrap (a - b)))) H :=
  OpV.of_val fun g w r hw h => ⟨.int k (k.wrap (a - b)), fun _ _ _ _ => by simp [execOp, hx.int (h x (by simp [Op.operands])), hy.int (h y (by simp [Op.operands])), eqGuard, binOp, Op.intArith], .d (.int _ _)⟩
theorem op_lss (hx : As (ρ x) (.int k a)) (hy : As (ρ y) (.int k b)) : OpV P (.binOp .lss t x y u) ty ρ H (.d (.bool (decide (a < b)))) H :=
  OpV.of_val fun g w r hw h => ⟨.bool (decide (a < b)), fun _ _ _ _ => by simp [execOp, hx.int (h x (by simp [Op.operands])), hy.int (h y (by simp [Op.operands])), eqGuard, binOp, Op.intCmp], .d (.bool _)⟩
theorem op_leq (hx : As (ρ x) (.int k a)) (hy : As (ρ y) (.int k b)) : OpV P (.binOp .leq t x y u) ty ρ H (.d (.bool (decide (a ≤ b)))) H :=
  OpV.of_val fun g w r hw h => ⟨.bool (decide (a ≤ b)), fun _ _ _ _ => by simp [execOp, hx.int (h x (by simp [Op.operands])), hy.int (h y (by simp [Op.operands])), eqGuard, binOp, Op.intCmp], .d (.bool _)⟩
theorem op_gtr (hx : As (ρ x) (.int k a)) (hy : As (ρ y) (.int k b)) : OpV P (.binOp .gtr t x y u) ty ρ H (.d (.bool (decide (b < a)))) H :=
  OpV.of_val fun g w r hw h => ⟨.bool (decide (b < a)), fun _ _ _ _ => by simp [execOp, hx.int (h x (by simp [Op.operands])), hy.int (h y (by simp [Op.operands])), eqGuard, binOp, Op.intCmp], .d (.bool _)⟩
theorem op_geq (hx : As (ρ x) (.int k a)) (hy : As (ρ y) (.int k b)) : OpV P (.binOp .geq t x y u) ty ρ H (.d (.bool (decide (b ≤ a)))) H :=
  OpV.of_val fun g w r hw h => ⟨.bool (decide (b ≤ a)), fun _ _ _ _ => by simp [execOp, hx.int (h x (by simp [Op.operands])), hy.int (h y (by simp [Op.operands])), eqGuard, binOp, Op.intCmp], .d (.bool _)⟩
theorem beq_dec (a b : Int) : (a == b) = decide (a = b) := by by_cases h : a = b <;> simp [h]
theorem op_eql (hx : As (ρ x) (.int k a)) (hy : As (ρ y) (.int k b)) : OpV P (.binOp .eql t x y u) ty ρ H (.d (.bool (decide (a = b)))) H :=
  OpV.of_val fun g w r hw h => ⟨.bool (decide (a = b)), fun _ _ _ _ => by simp [execOp, hx.int (h x (by simp [Op.operands])), hy.int (h y (by simp [Op.operands])), eqGuard, binOp, Op.intCmp, beq_dec], .d (.bool _)⟩
theorem op_neq (hx : As (ρ x) (.int k a)) (hy : As (ρ y) (.int k b)) : OpV P (.binOp .neq t x y u) ty ρ H (.d (.bool (!decide (a = b)))) H :=
  OpV.of_val fun g w r hw h => ⟨.bool (!decide (a = b)), fun _ _ _ _ => by simp [execOp, hx.int (h x (by simp [Op.operands])), hy.int (h y (by simp [Op.operands])), eqGuard, binOp, Op.intCmp, bne, beq_dec], .d (.bool _)⟩
theorem op_conv_int {dk : IntKind} (hx : As (ρ x) (.int k a)) (hs : ∃ d, P.underlying t = some d) (hd : P.underlying u = some (.int dk)) :
    OpV P (.convert t u x) ty ρ H (.d (.int dk (dk.wrap a))) H :=
  OpV.of_val fun g w r hw h => by
    obtain ⟨d, hs⟩ := hs
    refine ⟨.int dk (dk.wrap a), fun _ _ _ _ => ?_, .d (.int _ _)⟩
    simp [execOp, hx.int (h x (by simp [Op.operands])), convert, run_underlying hs, run_underlying hd, Conv.intToInt]
end ints

end
end Go.Proofs.YtindppnanjcoaaaGreatDoor.Ab
end
