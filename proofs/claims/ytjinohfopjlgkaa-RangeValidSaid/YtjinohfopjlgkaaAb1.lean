/- The abstract states over which the walks of this claim are typed: data, values, what a value in memory stands for, and how a world may evolve. Conditions: none. -/
import Derived.Calls
import Derived.Orders
namespace Go.Proofs.Ytjinohfopjlgkaa.Ab
open Go

/-- Package-level variables whose values are known: block, cells. -/
def KC : List (Nat × Array Value) := []

/-- Data: what can be handed over by value. -/
inductive D where
  | bool (b : Bool)
  | int (k : IntKind) (n : Int)
  | str (s : List UInt8)
  | sl (l : List D)
  | agg (l : List D)
  | tup (l : List D)
  | raw (v : Value)
  deriving Inhabited

abbrev D.i (n : Int) : D := .int .i64 n

/-- Lists of bytes are meant where a text is. -/
def D.cells : D → List D
  | .agg l => l
  | x => [x]

def D.flat (l : List D) : List D := l.flatMap D.cells

/-- Values of a walk. -/
inductive V where
  | d (x : D)
  | hs (id off len s : Nat)
  | ptr (id off : Nat)
  | mp (id : Nat)
  | vp (c : List D) (off : Nat)
  | tk (id : Nat) (l : List D)
  | ex (l : List D)
  | nil
  | fn (f : Fn) (caps : List V)
  | agg (cells : List V)
  | tup (vs : List V)
  | when (b : Bool) (v : V)
  | any
  deriving Inhabited

structure G where
  σ : Nat → Option Nat
  τ : Nat → Option (Nat × Option Addr × Nat)
  υ : Nat → Nat → Prop
  X : Nat → Prop
  Pr : Nat → Nat → Prop

inductive RepD (Pr : Nat → Nat → Prop) (w : World) : D → Value → Prop
  | bool (b : Bool) : RepD Pr w (.bool b) (.bool b)
  | int (k : IntKind) (n : Int) : RepD Pr w (.int k n) (.int k n)
  | str (s : List UInt8) : RepD Pr w (.str s) (.string ⟨s.toArray⟩)
  | raw (v : Value) : RepD Pr w (.raw v) v
  | agg (l : List D) (arr : Array Value) : arr.size = l.length → (∀ (i : Nat) x v, l[i]? = some x → arr[i]? = some v → RepD Pr w x v) → RepD Pr w (.agg l) (.agg arr)
  | tup (l : List D) (arr : Array Value) : arr.size = l.length → (∀ (i : Nat) x v, l[i]? = some x → arr[i]? = some v → RepD Pr w x v) → RepD Pr w (.tup l) (.tuple arr)
  | sl (l : List D) (a : Option Addr) (cap s : Nat) (f : Nat → Value) : (∀ x ∈ l, x.cells.length = s) → l.length ≤ cap →
      (l ≠ [] → ∃ b o, a = some ⟨b, o, none⟩ ∧ ∀ k, k < l.length * s → Pr b (o + k) ∧ w.cell? ⟨b, o + k, none⟩ = some (f k)) →
      (∀ (k : Nat) x, (D.flat l)[k]? = some x → RepD Pr w x (f k)) → RepD Pr w (.sl l) (.slice a l.length cap)

/-- Where a piece of a list begins. -/
def subA (a : Option Addr) (cap off s : Nat) : Option Addr := if off = 0 then a else if cap = off then a else a.map (·.add (off * s))
theorem hs0 {a a0 : Option Addr} {cap s n0 len c0 : Nat} (h : a0 = subA a cap 0 s ∧ n0 = len ∧ c0 = cap - 0 ∧ len + 0 ≤ cap) : a0 = a ∧ n0 = len ∧ c0 = cap ∧ len ≤ cap := h

inductive Rep (g : G) (w : World) : V → Value → Prop
  | d {x : D} {r : Value} : RepD g.Pr w x r → Rep g w (.d x) r
  | hs {id off len s m cap n0 c0 : Nat} {a a0 : Option Addr} : g.τ id = some (m, a, cap) → (m = 0 → a0 = subA a cap off s ∧ n0 = len ∧ c0 = cap - off ∧ len + off ≤ cap) → Rep g w (.hs id off len s) (.slice a0 n0 c0)
  | ptr {id off b : Nat} : g.σ id = some b → Rep g w (.ptr id off) (.pointer (some ⟨b, off, none⟩))
  | mp {id b : Nat} : g.σ id = some b → Rep g w (.mp id) (.map (some b))
  | vp {c : List D} {off b o : Nat} {f : Nat → Value} : (∀ k, k < c.length → g.Pr b (o + k) ∧ w.cell? ⟨b, o + k, none⟩ = some (f k)) →
      (∀ (k : Nat) x, c[k]? = some x → RepD g.Pr w x (f k)) → Rep g w (.vp c off) (.pointer (some ⟨b, o + off, none⟩))
  | tk {id : Nat} {l : List D} {r : Value} {m cap : Nat} {a : Option Addr} : RepD g.Pr w (.sl l) r → g.τ id = some (m, a, cap) → l.length ≤ m →
      (l.length = m → r = .slice a m cap) → Rep g w (.tk id l) r
  | ex {l : List D} {a : Option Addr} : RepD g.Pr w (.sl l) (.slice a l.length l.length) → Rep g w (.ex l) (.slice a l.length l.length)
  | nil : Rep g w .nil (.slice none 0 0)
  | fn {f : Fn} {caps : List V} {arr : Array Value} : arr.size = caps.length → (∀ (i : Nat) x v, caps[i]? = some x → arr[i]? = some v → Rep g w x v) →
      Rep g w (.fn f caps) (.func f #[] arr)
  | agg {l : List V} {arr : Array Value} : arr.size = l.length → (∀ (i : Nat) x v, l[i]? = some x → arr[i]? = some v → Rep g w x v) → Rep g w (.agg l) (.agg arr)
  | tup {l : List V} {arr : Array Value} : arr.size = l.length → (∀ (i : Nat) x v, l[i]? = some x → arr[i]? = some v → Rep g w x v) → Rep g w (.tup l) (.tuple arr)
  | when {b : Bool} {v : V} {r : Value} : (b = true → Rep g w v r) → (b = false → r = undef) → Rep g w (.when b v) r
  | any {r : Value} : Rep g w .any r

structure Evo (g : G) (w : World) (g' : G) (w' : World) : Prop where
  same : w'.os = w.os ∧ w'.tape = w.tape ∧ w'.output = w.output
  size : w.heap.size ≤ w'.heap.size
  pr : ∀ b o, g.Pr b o → g'.Pr b o ∧ w'.cell? ⟨b, o, none⟩ = w.cell? ⟨b, o, none⟩
  prn : ∀ b o, g'.Pr b o → g.Pr b o ∨ g.X b ∨ w.heap.size ≤ b
  x : ∀ b, g'.X b → g.X b ∨ w.heap.size ≤ b
  keep : ∀ b, b < w.heap.size → ¬ g.X b → w'.heap[b]? = w.heap[b]?
  σ : ∀ id b, g.σ id = some b → g'.σ id = some b
  τ : ∀ id m a cap, g.τ id = some (m, a, cap) → ∃ m' a' cap', g'.τ id = some (m', a', cap') ∧ (m < m' ∨ (m' = m ∧ a' = a ∧ cap' = cap))

/-- An object of the heap that is no block of cells: what is known of it, and that this stays. -/
structure OB where
  φ : G → World → Nat → Nat → Prop
  st : ∀ {g g' : G} {w w' : World} {id b : Nat}, Evo g w g' w' → g'.τ id = g.τ id → g'.υ id = g.υ id → w'.heap[b]? = w.heap[b]? → (∀ b', g.υ id b' → w'.heap[b']? = w.heap[b']?) → φ g w id b → φ g' w' id b
  fr : Bool
  fre : fr = true → ∀ {g g' : G} {w : World} {i j b : Nat}, g'.Pr = g.Pr → g'.υ j = g.υ i → φ g w i b → φ g' w j b

inductive HE where
  | free
  | dead
  | row (cells : List V)
  | tok (n : Nat) (e : TypeId) (s : Nat)
  | lst (l : List D) (e : TypeId) (s : Nat)
  | ob (x : OB)

instance : Inhabited HE := ⟨.free⟩

/-- The block that a live entry of the heap takes. -/
def G.blk (g : G) : Nat → HE → Nat → Prop
  | id, .row _, b => g.σ id = some b
  | id, .ob _, b => g.σ id = some b ∨ g.υ id b
  | id, .tok n _ _, b => ((g.τ id).bind fun t => if n < t.2.2 then t.2.1.map (·.block) else none) = some b
  | id, .lst _ _ _, b => ((g.τ id).bind fun t => if 0 < t.2.2 then t.2.1.map (·.block) else none) = some b
  | _, _, _ => False

structure WOK (g : G) (w : World) (H : List HE) : Prop where
  pr : ∀ b o, g.Pr b o → b < w.heap.size
  xs : ∀ b, g.X b → b < w.heap.size
  blk : ∀ (id : Nat) e b, H[id]? = some e → g.blk id e b → g.X b
  sep : ∀ (id id' : Nat) e e' b, H[id]? = some e → H[id']? = some e' → g.blk id e b → g.blk id' e' b → id = id'
  row : ∀ (id : Nat) c, H[id]? = some (.row c) → ∃ b arr et, g.σ id = some b ∧ w.heap[b]? = some (.cells arr et (0, 0)) ∧ c.length ≤ arr.size ∧
    (∀ (k : Nat) x v, c[k]? = some x → arr[k]? = some v → Rep g w x v) ∧ (∀ o, ¬ g.Pr b o)
  tok : ∀ (id : Nat) n e s, H[id]? = some (.tok n e s) → ∃ a cap, g.τ id = some (n, a, cap) ∧ n ≤ cap ∧ cap ≤ 9223372036854775807 ∧
    (n < cap → ∃ b arr, a = some ⟨b, 0, none⟩ ∧ w.heap[b]? = some (.cells arr e (0, 0)) ∧ arr.size = cap * s ∧ (∀ o, g.Pr b o → o < n * s))
  lst : ∀ (id : Nat) l e s, H[id]? = some (.lst l e s) → ∃ a cap, g.τ id = some (0, a, cap) ∧ l.length ≤ cap ∧ cap ≤ 9223372036854775807 ∧
    (0 < cap → ∃ b arr, a = some ⟨b, 0, none⟩ ∧ g.σ id = some b ∧ w.heap[b]? = some (.cells arr e (0, 0)) ∧ arr.size = cap * s ∧ (∀ o, ¬ g.Pr b o) ∧
      (∀ (k : Nat) x v, (D.flat l)[k]? = some x → arr[k]? = some v → RepD g.Pr w x v))
  ob : ∀ (id : Nat) x, H[id]? = some (.ob x) → ∃ b, g.σ id = some b ∧ x.φ g w id b ∧ (∀ o, ¬ g.Pr b o) ∧ (∀ b' o, g.υ id b' → ¬ g.Pr b' o)
  free : ∀ (id : Nat), (H[id]? = some .free ∨ H.length ≤ id) → g.σ id = none ∧ g.τ id = none ∧ ∀ b, ¬ g.υ id b
  kc : ∀ x ∈ KC, ¬ g.X x.1 ∧ (∀ o, o < x.2.size → g.Pr x.1 o) ∧ ∃ et fr, w.heap[x.1]? = some (.cells x.2 et fr)

/-- What is known of a package-level variable stays. -/
theorem WOK.kcE {g g' : G} {w w' : World} {H : List HE} (hw : WOK g w H) (he : Evo g w g' w') : ∀ x ∈ KC, ¬ g'.X x.1 ∧ (∀ o, o < x.2.size → g'.Pr x.1 o) ∧ ∃ et fr, w'.heap[x.1]? = some (.cells x.2 et fr) := fun x hx => by
  obtain ⟨h1, h2, et, fr, h3⟩ := hw.kc x hx
  have hb : x.1 < w.heap.size := (Array.getElem?_eq_some_iff.1 h3).1
  refine ⟨fun h => ?_, fun o ho => (he.pr _ _ (h2 o ho)).1, et, fr, by rw [he.keep _ hb h1]; exact h3⟩
  rcases he.x _ h with h | h
  · exact h1 h
  · omega
theorem Evo.refl (g : G) (w : World) : Evo g w g w where
  same := ⟨rfl, rfl, rfl⟩
  size := Nat.le_refl _
  pr := fun _ _ h => ⟨h, rfl⟩
  prn := fun _ _ h => .inl h
  x := fun _ h => .inl h
  keep := fun _ _ _ => rfl
  σ := fun _ _ h => h
  τ := fun _ m a cap h => ⟨m, a, cap, h, .inr ⟨rfl, rfl, rfl⟩⟩

theorem Evo.trans {g g' g'' : G} {w w' w'' : World} (h : Evo g w g' w') (h' : Evo g' w' g'' w'') : Evo g w g'' w'' where
  same := ⟨h'.same.1.trans h.same.1, h'.same.2.1.trans h.same.2.1, h'.same.2.2.trans h.same.2.2⟩
  size := Nat.le_trans h.size h'.size
  pr := fun b o hp => by
    obtain ⟨h1, h2⟩ := h.pr b o hp
    obtain ⟨h3, h4⟩ := h'.pr b o h1
    exact ⟨h3, h4.trans h2⟩
  prn := fun b o hp => by
    have := h.size
    rcases h'.prn b o hp with h1 | h1 | h1
    · exact h.prn b o h1
    · rcases h.x b h1 with h2 | h2
      · exact .inr (.inl h2)
      · exact .inr (.inr h2)
    · exact .inr (.inr (by omega))
  x := fun b hx => by
    have := h.size
    rcases h'.x b hx with h1 | h1
    · exact h.x b h1
    · exact .inr (by omega)
  keep := fun b hb hx => by
    have hs := h.size
    have hx' : ¬ g'.X b := fun hc => by
      rcases h.x b hc with h1 | h1
      · exact hx h1
      · omega
    exact (h'.keep b (by omega) hx').trans (h.keep b hb hx)
  σ := fun id b hb => h'.σ id b (h.σ id b hb)
  τ := fun id m a cap ht => by
    obtain ⟨m1, a1, c1, e1, o1⟩ := h.τ id m a cap ht
    obtain ⟨m2, a2, c2, e2, o2⟩ := h'.τ id m1 a1 c1 e1
    refine ⟨m2, a2, c2, e2, ?_⟩
    rcases o1 with o1 | ⟨rfl, rfl, rfl⟩
    · rcases o2 with o2 | ⟨rfl, rfl, rfl⟩
      · exact .inl (by omega)
      · exact .inl o1
    · exact o2

theorem RepD.mono {Pr Pr' : Nat → Nat → Prop} {w w' : World} (h : ∀ b o, Pr b o → Pr' b o ∧ w'.cell? ⟨b, o, none⟩ = w.cell? ⟨b, o, none⟩)
    {x : D} {r : Value} (hr : RepD Pr w x r) : RepD Pr' w' x r := by
  induction hr with
  | bool b => exact .bool b
  | int k n => exact .int k n
  | str s => exact .str s
  | raw v => exact .raw v
  | agg l arr hs _ ih => exact .agg l arr hs ih
  | tup l arr hs _ ih => exact .tup l arr hs ih
  | sl l a cap s f hs hc hrow _ ih =>
    refine .sl l a cap s f hs hc (fun hne => ?_) ih
    obtain ⟨b, o, ha, hk⟩ := hrow hne
    exact ⟨b, o, ha, fun k hlt => ⟨(h _ _ (hk k hlt).1).1, (h _ _ (hk k hlt).1).2.trans (hk k hlt).2⟩⟩

theorem Rep.mono {g g' : G} {w w' : World} (h : Evo g w g' w') {x : V} {r : Value} (hr : Rep g w x r) : Rep g' w' x r := by
  induction hr with
  | d hd => exact .d (hd.mono h.pr)
  | hs ht heq =>
    obtain ⟨m', a', cap', e', o'⟩ := h.τ _ _ _ _ ht
    refine .hs e' (fun h0 => ?_)
    rcases o' with o' | ⟨rfl, rfl, rfl⟩
    · omega
    · exact heq h0
  | ptr hb => exact .ptr (h.σ _ _ hb)
  | mp hb => exact .mp (h.σ _ _ hb)
  | vp hk hd => exact .vp (fun k hlt => ⟨(h.pr _ _ (hk k hlt).1).1, (h.pr _ _ (hk k hlt).1).2.trans (hk k hlt).2⟩) (fun k x hx => (hd k x hx).mono h.pr)
  | tk hd ht hle heq =>
    obtain ⟨m', a', cap', e', o'⟩ := h.τ _ _ _ _ ht
    refine .tk (hd.mono h.pr) e' ?_ (fun hl => ?_)
    · rcases o' with o' | ⟨rfl, _, _⟩ <;> omega
    · rcases o' with o' | ⟨rfl, rfl, rfl⟩
      · omega
      · exact heq hl
  | ex hd => exact .ex (hd.mono h.pr)
  | nil => exact .nil
  | fn hs _ ih => exact .fn hs ih
  | agg hs _ ih => exact .agg hs ih
  | tup hs _ ih => exact .tup hs ih
  | when h1 h2 ih => exact .when ih h2
  | any => exact .any

/-- What a call of function f comes to, over this heap. -/
def ACall (P : Program) (f : FuncId) (args : List V) (H : List HE) (R : V → List HE → Prop) : Prop :=
  ∀ (g : G) (w : World) (vals : Array Value), WOK g w H → vals.size = args.length → (∀ (i : Nat) x v, args[i]? = some x → vals[i]? = some v → Rep g w x v) →
    Calls P f vals w fun e w' => ∃ rv res g' H', e = .returned rv ∧ WOK g' w' H' ∧ Evo g w g' w' ∧ Rep g' w' res rv ∧ R res H'

/-- A call by value: data in, data out, nothing else. -/
def Fn (P : Program) (f : FuncId) (args : List D) (res : D) : Prop := ACall P f (args.map .d) [] fun r _ => r = .d res

theorem ACall.mono {P : Program} {f : FuncId} {args : List V} {H : List HE} {R R' : V → List HE → Prop} (h : ACall P f args H R) (hr : ∀ r H', R r H' → R' r H') : ACall P f args H R' :=
  fun g w vals hw hs ha => (h g w vals hw hs ha).mono fun _ _ ⟨rv, res, g', H', h1, h2, h3, h4, h5⟩ => ⟨rv, res, g', H', h1, h2, h3, h4, hr _ _ h5⟩

theorem Fn.at {P : Program} {f : FuncId} {args : List D} {res : D} (h : Fn P f args res) (H : List HE) :
    ACall P f (args.map .d) H fun r H' => r = .d res ∧ H' = H := by
  intro g w vals hw hs ha
  let g0 : G := { σ := fun _ => none, τ := fun _ => none, υ := fun _ _ => False, X := fun _ => False, Pr := g.Pr }
  have hw0 : WOK g0 w [] := by
    refine ⟨hw.pr, fun b hb => hb.elim, ?_, ?_, ?_, ?_, ?_, ?_, fun _ _ => ⟨rfl, rfl, fun _ h => h⟩, fun x hx => ⟨fun h => h, (hw.kc x hx).2⟩⟩ <;> intros <;> simp_all
  have ha0 : ∀ (i : Nat) x v, (args.map V.d)[i]? = some x → vals[i]? = some v → Rep g0 w x v := by
    intro i x v hx hv
    have := ha i x v hx hv
    simp only [List.getElem?_map, Option.map_eq_some_iff] at hx
    obtain ⟨y, _, rfl⟩ := hx
    cases this with
    | d hd => exact .d hd
  refine (h g0 w vals hw0 hs ha0).mono ?_
  rintro e w' ⟨rv, r, g', H', rfl, hw', he, hr, rfl⟩
  have keep : ∀ b, b < w.heap.size → w'.heap[b]? = w.heap[b]? := fun b hb => he.keep b hb (fun h => h)
  let g2 : G := { σ := g.σ, τ := g.τ, υ := g.υ, X := g.X, Pr := g'.Pr }
  have hold : ∀ b o, g'.Pr b o → b < w.heap.size → g.Pr b o := by
    intro b o hp hb
    rcases he.prn b o hp with h1 | h1 | h1
    · exact h1
    · exact h1.elim
    · omega
  have hev : Evo g w g2 w' := {
    same := he.same
    size := he.size
    pr := he.pr
    prn := fun b o hp => by
      rcases he.prn b o hp with h1 | h1 | h1
      · exact .inl h1
      · exact h1.elim
      · exact .inr (.inr h1)
    x := fun b hb => .inl hb
    keep := fun b hb _ => keep b hb
    σ := fun _ _ h => h
    τ := fun _ m a cap h => ⟨m, a, cap, h, .inr ⟨rfl, rfl, rfl⟩⟩ }
  refine ⟨rv, .d res, g2, H, rfl, ?_, hev, ?_, rfl, rfl⟩
  · refine ⟨hw'.pr, fun b hb => Nat.lt_of_lt_of_le (hw.xs b hb) he.size, hw.blk, hw.sep, ?_, ?_, ?_, ?_, hw.free, hw.kcE hev⟩
    · intro id c hc
      obtain ⟨b, arr, et, h1, h2, h3, h4, h5⟩ := hw.row id c hc
      have hb : b < w.heap.size := hw.xs b (hw.blk id _ b hc h1)
      exact ⟨b, arr, et, h1, (keep b hb).trans h2, h3, fun k x v hx hv => (h4 k x v hx hv).mono hev, fun o hp => h5 o (hold b o hp hb)⟩
    · intro id n e s hn
      obtain ⟨a, cap, h1, h2, h2', h3⟩ := hw.tok id n e s hn
      refine ⟨a, cap, h1, h2, h2', fun hlt => ?_⟩
      obtain ⟨b, arr, e1, e2, e3, e4⟩ := h3 hlt
      have hb : b < w.heap.size := hw.xs _ (hw.blk id _ b hn (by simp [G.blk, h1, e1, hlt]))
      exact ⟨b, arr, e1, (keep _ hb).trans e2, e3, fun o hp => e4 o (hold _ o hp hb)⟩
    · intro id l e s hn
      obtain ⟨a, cap, h1, h2, h2', h3⟩ := hw.lst id l e s hn
      refine ⟨a, cap, h1, h2, h2', fun hlt => ?_⟩
      obtain ⟨b, arr, e1, e0, e2, e3, e4, e5⟩ := h3 hlt
      have hb : b < w.heap.size := hw.xs _ (hw.blk id _ b hn (by simp [G.blk, h1, e1, hlt]))
      exact ⟨b, arr, e1, e0, (keep _ hb).trans e2, e3, fun o hp => e4 o (hold _ o hp hb), fun k x v hx hv => (e5 k x v hx hv).mono hev.pr⟩
    · intro id x hx
      obtain ⟨b, h1, h2, h3, h4⟩ := hw.ob id x hx
      have hb : b < w.heap.size := hw.xs b (hw.blk id _ b hx (.inl h1))
      have hbu : ∀ b', g.υ id b' → b' < w.heap.size := fun b' h => hw.xs b' (hw.blk id _ b' hx (.inr h))
      exact ⟨b, h1, x.st hev rfl rfl (keep b hb) (fun b' h => keep b' (hbu b' h)) h2, fun o hp => h3 o (hold b o hp hb), fun b' o h hp => h4 b' o h (hold b' o hp (hbu b' h))⟩
  · cases hr with
    | d hd => exact .d hd

end Go.Proofs.Ytjinohfopjlgkaa.Ab
