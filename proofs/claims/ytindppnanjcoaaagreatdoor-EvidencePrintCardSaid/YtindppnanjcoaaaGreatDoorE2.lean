/- A computing reader of the program: values, a heap of regions by number, what each operation comes to. The computing reader: statements, calls, regions whose order is open. Conditions: none. -/
import Derived.Calls
import Derived.Orders
section
namespace Go.Proofs.YtindppnanjcoaaaGreatDoor.Ev
open Go
noncomputable section

/-- Values. -/
inductive CV where
  | i (k : IntKind) (n : Int)
  | b (q : Bool)
  | v (x : Value)
  | sl (id o len cap : Nat)
  | so (id k len s : Nat)
  | p (id o : Nat)
  | m (id : Nat)
  | f (fn : Fn) (caps : List CV)
  | a (l : List CV)
  | t (l : List CV)
  | cp (lo : Nat)
  | any
  deriving Inhabited

/-- What a region holds. -/
inductive AO where
  | free
  | res
  | c (l : List CV)
  | k (l : List CV)
  | m (es : List (CV × CV × Nat)) (clock : Nat)
  | si (s : ByteArray) (pos : Nat)
  | mi (m : Option Nat) (since : Nat) (seen : List Nat) (stepped : Nat)
  deriving Inhabited

/- Trees of one depth. -/
structure N (α : Type) where
  a : α
  b : α
  c : α
  d : α
  e : α
  f : α
  g : α
  h : α
def Tr (α : Type) : Nat → Type
  | 0 => α
  | k + 1 => N (Tr α k)
structure G (A B : Type) where
  g : A → B
structure S (A B : Type) where
  s : B → A → A
section
variable {A B : Type}
def g0 (f : G A B) (E : N A) : B := f.g E.a
def g1 (f : G A B) (E : N A) : B := f.g E.b
def g2 (f : G A B) (E : N A) : B := f.g E.c
def g3 (f : G A B) (E : N A) : B := f.g E.d
def g4 (f : G A B) (E : N A) : B := f.g E.e
def g5 (f : G A B) (E : N A) : B := f.g E.f
def g6 (f : G A B) (E : N A) : B := f.g E.g
def g7 (f : G A B) (E : N A) : B := f.g E.h
def s0 (f : S A B) (x : B) (E : N A) : N A := ⟨f.s x E.a, E.b, E.c, E.d, E.e, E.f, E.g, E.h⟩
def s1 (f : S A B) (x : B) (E : N A) : N A := ⟨E.a, f.s x E.b, E.c, E.d, E.e, E.f, E.g, E.h⟩
def s2 (f : S A B) (x : B) (E : N A) : N A := ⟨E.a, E.b, f.s x E.c, E.d, E.e, E.f, E.g, E.h⟩
def s3 (f : S A B) (x : B) (E : N A) : N A := ⟨E.a, E.b, E.c, f.s x E.d, E.e, E.f, E.g, E.h⟩
def s4 (f : S A B) (x : B) (E : N A) : N A := ⟨E.a, E.b, E.c, E.d, f.s x E.e, E.f, E.g, E.h⟩
def s5 (f : S A B) (x : B) (E : N A) : N A := ⟨E.a, E.b, E.c, E.d, E.e, f.s x E.f, E.g, E.h⟩
def s6 (f : S A B) (x : B) (E : N A) : N A := ⟨E.a, E.b, E.c, E.d, E.e, E.f, f.s x E.g, E.h⟩
def s7 (f : S A B) (x : B) (E : N A) : N A := ⟨E.a, E.b, E.c, E.d, E.e, E.f, E.g, f.s x E.h⟩
end
def pick {α : Type} (i : Nat) (x0 x1 x2 x3 x4 x5 x6 x7 : α) : α :=
  bif Nat.beq i 0 then x0 else bif Nat.beq i 1 then x1 else bif Nat.beq i 2 then x2 else bif Nat.beq i 3 then x3 else bif Nat.beq i 4 then x4 else bif Nat.beq i 5 then x5 else bif Nat.beq i 6 then x6 else x7
def getF (α : Type) : (k : Nat) → Nat → G (Tr α k) α
  | 0, _ => ⟨fun x => x⟩
  | k + 1, i => pick (Nat.mod i 8) ⟨g0 (getF α k (Nat.div i 8))⟩ ⟨g1 (getF α k (Nat.div i 8))⟩ ⟨g2 (getF α k (Nat.div i 8))⟩ ⟨g3 (getF α k (Nat.div i 8))⟩ ⟨g4 (getF α k (Nat.div i 8))⟩ ⟨g5 (getF α k (Nat.div i 8))⟩ ⟨g6 (getF α k (Nat.div i 8))⟩ ⟨g7 (getF α k (Nat.div i 8))⟩
def setF (α : Type) : (k : Nat) → Nat → S (Tr α k) α
  | 0, _ => ⟨fun x _ => x⟩
  | k + 1, i => pick (Nat.mod i 8) ⟨s0 (setF α k (Nat.div i 8))⟩ ⟨s1 (setF α k (Nat.div i 8))⟩ ⟨s2 (setF α k (Nat.div i 8))⟩ ⟨s3 (setF α k (Nat.div i 8))⟩ ⟨s4 (setF α k (Nat.div i 8))⟩ ⟨s5 (setF α k (Nat.div i 8))⟩ ⟨s6 (setF α k (Nat.div i 8))⟩ ⟨s7 (setF α k (Nat.div i 8))⟩
def allT (α : Type) (x : α) : (k : Nat) → Tr α k
  | 0 => x
  | k + 1 => ⟨allT α x k, allT α x k, allT α x k, allT α x k, allT α x k, allT α x k, allT α x k, allT α x k⟩

structure Hp where
  h : Tr AO 4
  n : Nat
  fl : Nat

abbrev Env := Tr CV 3

/-- A number as it stands. -/
def frc {β : Type} (f : Nat → β) (n : Nat) : β := Nat.rec (motive := fun _ => β) (f 0) (fun k _ => f (Nat.succ k)) n
def Hp.get (H : Hp) (id : Nat) : AO := frc (fun id => (getF AO 4 id).g H.h) id
def Hp.wr (H : Hp) (id : Nat) (x : AO) : Option Hp := bif Nat.ble H.fl id then some (frc (fun id => frc (fun n => frc (fun fl => ⟨(setF AO 4 id).s x H.h, n, fl⟩) H.fl) H.n) id) else none
def Hp.new (H : Hp) (x : AO) (v : Nat → CV) : Option (CV × Hp) := bif Nat.blt H.n 4096 then some (frc (fun n => frc (fun fl => (v n, ⟨(setF AO 4 n).s x H.h, Nat.succ n, fl⟩)) H.fl) H.n) else none

/-- A value that is one cell. -/
def cv1 : Value → CV
  | .int k n => .i k n
  | .bool b => .b b
  | v => .v v
def cvOf : Value → CV
  | .agg cs => .a (cs.toList.map cv1)
  | v => cv1 v

def pureV (P : Program) {α : Type} : Sem α → Option α
  | .pure a => some a
  | .program k => pureV P (k P)
  | _ => none

mutual
def toV : CV → Option Value
  | .i k n => some (.int k n)
  | .b q => some (.bool q)
  | .v x => some x
  | .a l => match toVs l with | some l => some (.agg l.toArray) | none => none
  | .t l => match toVs l with | some l => some (.tuple l.toArray) | none => none
  | _ => none
def toVs : List CV → Option (List Value)
  | [] => some []
  | x :: r => match toV x, toVs r with | some y, some s => some (y :: s) | _, _ => none
end

def cells : CV → List CV
  | .a l => l
  | x => [x]

def nth {α : Type} (l : List α) : Nat → Option α :=
  List.rec (motive := fun _ => Nat → Option α) (fun _ => none) (fun x _ ih i => Nat.casesOn (motive := fun _ => Option α) i (some x) ih) l

def drp {α : Type} : List α → Nat → List α
  | [], _ => []
  | x :: l, i => bif Nat.beq i 0 then x :: l else drp l (i - 1)

/-- n entries from i on. -/
def tk {α : Type} : Nat → List α → Option (List α)
  | 0, _ => some []
  | _ + 1, [] => none
  | n + 1, x :: l => match tk n l with | some r => some (x :: r) | none => none

/-- cs over the cells of l from o on. -/
def ovr {α : Type} : List α → List α → Option (List α)
  | l, [] => some l
  | [], _ :: _ => none
  | _ :: l, c :: cs => match ovr l cs with | some r => some (c :: r) | none => none
def splice {α : Type} : List α → Nat → List α → Option (List α)
  | [], o, cs => bif Nat.beq o 0 then ovr [] cs else none
  | x :: l, o, cs => bif Nat.beq o 0 then ovr (x :: l) cs else match splice l (o - 1) cs with | some r => some (x :: r) | none => none

def oneCell : CV → Bool
  | .v (.agg _) | .v (.tuple _) | .a _ | .t _ | .any => false
  | _ => true

def cellsO (c : CV) : Option (List CV) := match c with
  | .a l => some l
  | c => bif oneCell c then some [c] else none

def notAgg : TypeDesc → Bool
  | .struct _ | .array _ _ => false
  | _ => true

def kix : IntKind → Nat
  | .i8 => 0 | .i16 => 1 | .i32 => 2 | .i64 => 3 | .u8 => 4 | .u16 => 5 | .u32 => 6 | .u64 => 7
def keq (j k : IntKind) : Bool := Nat.beq (kix j) (kix k)

def b63 : Nat := 9223372036854775808
def wr64 (n : Int) : Int := match n with
  | .ofNat m => bif Nat.blt m b63 then .ofNat m else IntKind.i64.wrap (.ofNat m)
  | .negSucc m => bif Nat.blt m b63 then .negSucc m else IntKind.i64.wrap (.negSucc m)
def wr (k : IntKind) (n : Int) : Int := bif Nat.beq (kix k) 3 then wr64 n else k.wrap n
def ilt : Int → Int → Bool
  | .ofNat a, .ofNat b => Nat.blt a b
  | .negSucc _, .ofNat _ => true
  | .ofNat _, .negSucc _ => false
  | .negSucc a, .negSucc b => Nat.blt b a
def ieq : Int → Int → Bool
  | .ofNat a, .ofNat b => Nat.beq a b
  | .negSucc a, .negSucc b => Nat.beq a b
  | _, _ => false

/-- Operands. -/
inductive X where
  | t (p : G Env CV)
  | c (v : CV)
def compX : Operand → X
  | .tmp t => bif Nat.blt t 512 then .t (getF CV 3 t) else .c .any
  | .const v => .c (cvOf v)
  | .func f => .c (.f (.func f) [])
  | .global _ => .c .any
def evX (E : Env) (x : X) : CV := X.rec (motive := fun _ => CV) (fun p => p.g E) (fun v => v) x
def evO (E : Env) (x : Operand) : CV := evX E (compX x)

section
variable (P : Program)

def sizeT (t : TypeId) : Option Nat := match P.info? t with | some i => some i.size | none => none
def zeroT (t : TypeId) : Option (List CV) := match P.info? t with | some i => (match i.zero with | some z => some (z.cells.toList.map cv1) | none => none) | none => none
def zeroV (t : TypeId) : Option CV := match P.info? t with | some i => (match i.zero with | some z => some (cvOf z) | none => none) | none => none
def smallT (t : TypeId) : Bool := match P.info? t with | some i => Nat.ble i.bytes 65536 | none => false
def elemT (t : TypeId) : Option TypeId := match P.underlying t with | some (.slice e) => some e | _ => none
def fldT (t : TypeId) (k : Nat) : Option Field := match P.underlying t with | some (.struct fs) => fs[k]? | _ => none

def partC (t : TypeId) (l : List CV) (off : Nat) : Option CV :=
  match P.underlying t with
  | some d => bif notAgg d then nth l off else
    match sizeT P t with
    | some n => (match tk n (drp l off) with | some r => some (.a r) | none => none)
    | none => none
  | none => none

def row (H : Hp) (id : Nat) : Option (List CV) := match H.get id with | .c l => some l | _ => none

/-- For reading. -/
def rowR (H : Hp) (id : Nat) : Option (List CV) := match H.get id with | .c l => some l | .k l => some l | _ => none

def sliceCells (H : Hp) (sz : Nat) : CV → Option (List CV)
  | .sl id o len _ => match rowR H id with | some l => tk (len * sz) (drp l o) | none => none
  | .so id k len s => bif Nat.beq s sz then (match rowR H id with | some l => tk (len * s) (drp l (k * s)) | none => none) else none
  | .v (.slice none 0 0) => some []
  | _ => none

def asN : CV → Option Nat
  | .i _ (.ofNat n) => some n
  | _ => none

def fillC (place : Nat → Option (Nat × Nat)) : List CV → List (Nat × CV) → Option (List CV)
  | cs, [] => some cs
  | cs, (i, x) :: r => match place i, cellsO x with
    | some (off, size), some l => bif Nat.beq l.length size then (match splice cs off l with | some cs => fillC place cs r | none => none) else none
    | _, _ => none

def rep {α : Type} : Nat → List α → List α
  | 0, _ => []
  | n + 1, l => l ++ rep n l

def keyRows : List (CV × CV × Nat) → Option (List MapEntry)
  | [] => some []
  | (k, _, b) :: r => match toV k, keyRows r with | some k, some r => some (⟨k, undef, b⟩ :: r) | _, _ => none

def keyD : TypeDesc → Bool
  | .int _ | .string => true
  | _ => false
/-- Where a key is, if it is there. -/
def findK (kt : TypeId) (k : CV) (es : List (CV × CV × Nat)) : Option (Option Nat) :=
  match P.underlying kt with
  | some d => bif keyD d then
    (match toV k, keyRows es with
    | some k, some rs => (match Instr.findNow d k rs 0 with
      | some (some (i, _)) => some (some i)
      | some none => some none
      | none => none)
    | _, _ => none) else none
  | none => none

def updAt : List (CV × CV × Nat) → Nat → CV → List (CV × CV × Nat)
  | [], _, _ => []
  | (k, x, b) :: r, i, y => bif Nat.beq i 0 then (k, y, b) :: r else (k, x, b) :: updAt r (i - 1) y

def isNil : CV → Option Bool
  | .v (.slice none _ _) => some true
  | .sl .. | .so .. => some false
  | _ => none

def arF : BinOp → Option (IntKind → Int → Int → CV)
  | .add => some fun k a b => .i k (wr k (Int.add a b))
  | .sub => some fun k a b => .i k (wr k (Int.sub a b))
  | .mul => some fun k a b => .i k (wr k (Int.mul a b))
  | .lss => some fun _ a b => .b (ilt a b)
  | .gtr => some fun _ a b => .b (ilt b a)
  | .leq => some fun _ a b => .b (not (ilt b a))
  | .geq => some fun _ a b => .b (not (ilt a b))
  | .eql => some fun _ a b => .b (ieq a b)
  | .neq => some fun _ a b => .b (not (ieq a b))
  | _ => none

def binG (op : BinOp) (t : TypeId) (ox oy : Operand) (x y : CV) : Option CV :=
  match x, y with
  | .i .i64 a, .cp lo => (match op with | .gtr => bif decide (a ≤ lo) then some (.b false) else none | _ => none)
  | _, _ => match toV x, toV y with
    | some a, some b => (match pureV P (do eqGuard op t ox oy a b; binOp op t a b) with | some r => some (cv1 r) | none => none)
    | _, _ => match op, isNil x, isNil y with
      | .eql, some a, some b => bif (a || b) && (elemT P t).isSome then some (.b (a && b)) else none
      | _, _, _ => none

/-- What a list leads to behind which these cells are put. -/
def appendTo (H : Hp) (sz : Nat) (x : CV) (new : List CV) : Option (CV × Hp) :=
  let n := new.length / sz
  match x with
  | .v (.slice none 0 0) => bif Nat.beq n 0 then some (x, H) else bif Nat.ble n 250 then H.new (.c new) (.so · 0 n sz) else none
  | .sl id o len cap => bif Nat.ble (len + n) cap then
      (match bif new.all oneCell then row H id else none with
      | some l => (match splice l (o + len * sz) new with
        | some l => (match H.wr id (.c l) with | some H => some (.sl id o (len + n) cap, H) | none => none)
        | none => none)
      | none => none)
    else bif Nat.ble (len + n) 250 then (match sliceCells H sz x with
      | some old => H.new (.c (old ++ new)) (.so · 0 (len + n) sz)
      | none => none) else none
  | .so id _ len s => bif Nat.ble (len + n) 250 && Nat.blt 0 n && new.all oneCell && Nat.beq s sz then (match row H id, sliceCells H sz x with
      | some _, some old => (match H.wr id .free with | some H => H.new (.c (old ++ new)) (.so · 0 (len + n) sz) | none => none)
      | _, _ => none) else none
  | _ => none
/-- The same with zero values. -/
def appendZ (H : Hp) (sz : Nat) (x : CV) (n : Nat) (new : List CV) : Option (CV × Hp) := match x with
  | .v (.slice none 0 0) => bif Nat.blt 0 n && Nat.ble n 250 then H.new (.c new) (.so · 0 n sz) else none
  | .sl _ _ len cap => bif Nat.blt cap (len + n) && Nat.ble (len + n) 250 && Nat.blt 0 n then (match sliceCells H sz x with
      | some old => H.new (.c (old ++ new)) (.so · 0 (len + n) sz)
      | none => none) else none
  | _ => none

def pureB : Builtin → Bool
  | .len | .cap | .min | .max => true
  | _ => false
def evAppend (H : Hp) (ts : Array TypeId) (x y : CV) : Option (CV × Hp) := match ts.toList with
  | [t, u] => (match elemT P t with
    | some e => (match sizeT P e, zeroT P e with
      | some sz, some z => bif Nat.beq sz z.length && Nat.blt 0 sz && smallT P e then
          (bif (elemT P u).isSome then (match sliceCells H sz y with | some new => appendTo H sz x new | none => none)
          else match P.underlying u, y with
            | some (.int _), .i _ (.ofNat n) => bif Nat.ble n 250 then appendZ H sz x n (rep n z) else none
            | _, _ => none) else none
      | _, _ => none)
    | none => none)
  | _ => none
def evCopy (H : Hp) (ts : Array TypeId) (x y : CV) : Option (CV × Hp) := match x, ts.toList with
  | .so id k len s, t :: _ => (match elemT P t with
    | some e => (match sizeT P e with
      | some sz => bif Nat.beq s sz then
        (match sliceCells H sz y, row H id with
        | some src, some l =>
          (match tk (Nat.min (src.length / sz) len * sz) src with
          | some src' => bif src'.all oneCell then (match splice l (k * s) src' with
            | some l => (match H.wr id (.c l) with | some H => some (.i .i64 (.ofNat (Nat.min (src.length / sz) len)), H) | none => none)
            | none => none) else none
          | none => none)
        | _, _ => none) else none
      | none => none)
    | none => none)
  | _, _ => none
def evClear (H : Hp) (ts : Array TypeId) (x : CV) : Option (CV × Hp) := match x, ts.toList with
  | .so id k len s, t :: _ => (match elemT P t with
    | some e => (match zeroT P e, row H id with
      | some z, some l => bif Nat.beq s z.length && z.all oneCell && Nat.blt 0 len then (match splice l (k * s) (rep len z) with
        | some l => (match H.wr id (.c l) with | some H => some (.v (.tuple #[]), H) | none => none)
        | none => none) else none
      | _, _ => none)
    | none => none)
  | _, _ => none
def evLenM (H : Hp) (ts : Array TypeId) (id : Nat) : Option (CV × Hp) := match ts.toList with
  | [t] => (match P.underlying t, H.get id with | some (.map _ _), .m es _ => some (.i .i64 es.length, H) | _, _ => none)
  | _ => none
def evCap (H : Hp) (ts : Array TypeId) (x : CV) : Option (CV × Hp) := match x, ts.toList with
  | .sl _ _ _ c, [t] => bif (elemT P t).isSome then some (.i .i64 c, H) else none
  | .so id k _ s, [t] => bif (elemT P t).isSome then (match row H id with | some l => some (.cp (l.length / s - k), H) | none => none) else none
  | _, _ => none
def evPure (b : Builtin) (ts : Array TypeId) (ty : TypeId) (xs : List CV) : Option CV := bif pureB b then (match toVs xs with
  | some vs => (match pureV P (builtin b ts ty #[] vs.toArray) with
    | some (.value v) => some (cv1 v)
    | _ => none)
  | none => none) else none
def val (H : Hp) : Option CV → Option (CV × Hp)
  | some v => some (v, H)
  | none => none
def evB (H : Hp) (b : Builtin) (ts : Array TypeId) (ty : TypeId) (xs : List CV) : Option (CV × Hp) := match xs with
  | [.m id] => (match b with | .len => evLenM P H ts id | _ => none)
  | [.sl a b' c d] => (match b with | .cap => evCap P H ts (.sl a b' c d) | _ => none)
  | [.so a b' c d] => (match b with | .cap => evCap P H ts (.so a b' c d) | .clear => evClear P H ts (.so a b' c d) | _ => none)
  | xs => (match b with
    | .append => (match xs with | [x, y] => evAppend P H ts x y | _ => none)
    | .copy => (match xs with | [x, y] => evCopy P H ts x y | _ => none)
    | b => val H (evPure P b ts ty xs))

/-- New regions stand at the end, or where one is kept for them. -/
def put (H : Hp) (w : Option Nat) (x : AO) (K : Nat → CV) : Option (CV × Hp) := match w with
  | none => H.new x K
  | some id => (match H.get id with | .res => (match H.wr id x with | some H => some (K id, H) | none => none) | _ => none)

def bnd (x : Option CV) (d y : Nat) : Option Nat := match x with
  | none => bif Nat.ble d y then some d else none
  | some x => (match asN x with | some n => bif Nat.ble n y then some n else none | none => none)

def evSlice (H : Hp) (t : TypeId) (x : CV) (lo hi : Option CV) : Option (CV × Hp) :=
  match x with
  | .sl id o len cap => (match elemT P t with
    | some e => (match sizeT P e, bnd hi len cap with
      | some s, some h => (match bnd lo 0 h with
        | some l => some (.sl id (bif Nat.beq cap l then o else o + l * s) (h - l) (cap - l), H)
        | none => none)
      | _, _ => none)
    | none => none)
  | .so id k len s => (match elemT P t with
    | some e => (match sizeT P e with
      | some s' => bif Nat.beq s s' then
        (match (match bnd hi len len with
          | some h => some h
          | none => (match row H id with | some l => bnd hi len (l.length / s - k) | none => none)) with
        | some h => (match bnd lo 0 h with
          | some l => some (.so id (k + l) (h - l) s, H)
          | none => none)
        | none => none) else none
      | none => none)
    | none => none)
  | .p id off => (match P.underlying t with
    | some (.array n e) => (match sizeT P e, bnd hi n n with
      | some s, some h => (match bnd lo 0 h with
        | some l => some (.sl id (bif Nat.beq n l then off else off + l * s) (h - l) (n - l), H)
        | none => none)
      | _, _ => none)
    | _ => none)
  | x => (match toV x, lo.map toV, hi.map toV with
    | some x, some (some l), some (some h) => (match pureV P (Instr.sliceAt t x (some l) (some h) none) with | some v => some (cv1 v, H) | none => none)
    | some x, some (some l), none => (match pureV P (Instr.sliceAt t x (some l) none none) with | some v => some (cv1 v, H) | none => none)
    | some x, none, some (some h) => (match pureV P (Instr.sliceAt t x none (some h) none) with | some v => some (cv1 v, H) | none => none)
    | some x, none, none => (match pureV P (Instr.sliceAt t x none none none) with | some v => some (cv1 v, H) | none => none)
    | _, _, _ => none)

def placesT (t : TypeId) : Option (Nat → Option (Nat × Nat)) := match P.underlying t with
  | some (.struct fs) => (match fs.toList.mapM (fun f => (P.info? f.type).map fun i => (f.offset, i.size)) with | some pl => some (nth pl) | none => none)
  | some (.array _ e) => (match sizeT P e with | some s => some fun i => some (i * s, s) | none => none)
  | _ => none
def evBuild (t : TypeId) (ps : Array (Nat × Operand)) (E : Env) : Option CV := match zeroT P t, placesT P t with
  | some z, some pl => (match fillC pl z (ps.toList.map fun p => (p.1, evO E p.2)) with | some cs => some (.a cs) | none => none)
  | _, _ => none

def evBuildSlice (t : TypeId) (len : Nat) (ps : Array (Nat × Operand)) (E : Env) (H : Hp) (w : Option Nat) : Option (CV × Hp) := match elemT P t with
  | some e => (match sizeT P e, zeroT P e with
    | some s, some z => bif Nat.beq s z.length && Nat.ble (len * s) 65536 then
      (match fillC (fun i => some (i * s, s)) (rep len z) (ps.toList.map fun p => (p.1, evO E p.2)) with
      | some cs => put H w (.c cs) (.sl · 0 len len)
      | none => none) else none
    | _, _ => none)
  | none => none

def evStore (t : TypeId) (x y : CV) (H : Hp) : Option (CV × Hp) := match x with
  | .p id o => (match row H id, sizeT P t with
    | some l, some s => bif Nat.beq (cells y).length s && (cells y).all oneCell then (match splice l o (cells y) with
        | some l => (match H.wr id (.c l) with | some H => some (.v undef, H) | none => none)
        | none => none) else none
    | _, _ => none)
  | _ => none

def evMakeSlice (t : TypeId) (l c : CV) (H : Hp) (w : Option Nat) : Option (CV × Hp) := match elemT P t with
  | some e => (match sizeT P e, zeroT P e, asN l, asN c with
    | some s, some z, some l, some c => bif Nat.beq s z.length && Nat.ble l c && Nat.ble c 65536 && smallT P e then put H w (.c (rep c z)) (.sl · 0 l c) else none
    | _, _, _, _ => none)
  | none => none

def evIndexA (t : TypeId) (x i : CV) : Option CV := match asN i, P.underlying t with
  | some i, some (.array n e) => (match sizeT P e, x with
    | some s, .p id o => bif Nat.blt i n then some (.p id (o + i * s)) else none
    | _, _ => none)
  | _, _ => none

def evIndex (t : TypeId) (x i : CV) : Option CV := match P.underlying t, x, asN i with
  | some (.array n e), .a l, some i => (match sizeT P e with
    | some s => bif Nat.blt i n then partC P e l (i * s) else none
    | none => none)
  | some .string, .v (.string s), some i => (match nth s.data.toList i with | some b => some (.i .u8 b.toNat) | none => none)
  | _, _, _ => none

def evLookup (t : TypeId) (x k : CV) (ok : Bool) (H : Hp) : Option CV := match P.underlying t, x with
  | some (.map kt et), .m id => (match H.get id with
    | .m es _ => (match findK P kt k es with
      | some (some i) => (match nth es i with | some e => some (bif ok then .t [e.2.1, .b true] else e.2.1) | none => none)
      | some none => (match zeroV P et with | some z => some (bif ok then .t [z, .b false] else z) | none => none)
      | none => none)
    | _ => none)
  | _, _ => none

def evMapUpdate (t : TypeId) (x k y : CV) (H : Hp) : Option (CV × Hp) := match P.underlying t, x with
  | some (.map kt _), .m id => (match H.get id with
    | .m es cl => (match findK P kt k es with
      | some (some i) => (match H.wr id (.m (updAt es i y) cl) with | some H => some (.v undef, H) | none => none)
      | some none => (match H.wr id (.m (es ++ [(k, y, cl)]) (cl + 1)) with | some H => some (.v undef, H) | none => none)
      | none => none)
    | _ => none)
  | _, _ => none

def evRange (t : TypeId) (x : CV) (H : Hp) : Option (CV × Hp) := match P.underlying t, x with
  | some .string, .v (.string s) => H.new (.si s 0) (.p · 0)
  | some (.map _ _), .m id => (match H.get id with
    | .m _ cl => H.new (.mi (some id) cl [] cl) (.p · 0)
    | _ => none)
  | _, _ => none

def evEntry (it : CV) (H : Hp) : Option CV := match it with
  | .p id 0 => (match H.get id with
    | .mi (some m) _ seen st => (match H.get m, seen.getLast? with
      | .m es cl, some b => bif Nat.beq cl st then (match es.find? (fun e => Nat.beq e.2.2 b) with | some e => some (.t [e.1, e.2.1]) | none => none) else none
      | _, _ => none)
    | _ => none)
  | _ => none

def strT (t : TypeId) : Bool := match P.underlying t with | some .string => true | _ => false
def evConvert (s d : TypeId) (x : CV) (H : Hp) : Option (CV × Hp) := match toV x with
  | some y => (match pureV P (Go.convert s d y) with
    | some r => some (cv1 r, H)
    | none => (match y, elemT P d with
      | .string z, some e => (match P.underlying e with
        | some (.int .u8) => bif strT P s && Nat.ble z.size 4294967296 then H.new (.k (z.data.toList.map fun b => .i .u8 b.toNat)) (.so · 0 z.size 1) else none
        | _ => none)
      | _, _ => none))
  | none => none

/-- What an operation comes to that is seldom met. -/
def evOp (o : Op) (ty : TypeId) (E : Env) (H : Hp) (w : Option Nat) : Option (CV × Hp) :=
  match o with
  | .alloc e => (match zeroT P e with | some z => put H w (.c z) (.p · 0) | none => none)
  | .box _ x => (match cellsO (evO E x) with | some l => put H w (.c l) (.p · 0) | none => none)
  | .build t ps => val H (evBuild P t ps E)
  | .buildSlice t len ps => evBuildSlice P t len ps E H w
  | .store t x y => evStore P t (evO E x) (evO E y) H
  | .nilCheck x => (match evO E x with | .p id o => some (.p id o, H) | _ => none)
  | .makeFunc fn fst cs => bif fst.isEmpty then some (.f fn (cs.toList.map (evO E)), H) else none
  | .makeMap _ none => put H w (.m [] 0) .m
  | .makeSlice t l c => evMakeSlice P t (evO E l) (evO E c) H w
  | .slice t x lo hi none => evSlice P H t (evO E x) (lo.map (evO E)) (hi.map (evO E))
  | .indexAddr t x i => val H (evIndexA P t (evO E x) (evO E i))
  | .index t x i => val H (evIndex P t (evO E x) (evO E i))
  | .lookup t x k ok => val H (evLookup P t (evO E x) (evO E k) ok H)
  | .mapUpdate t x k y => evMapUpdate P t (evO E x) (evO E k) (evO E y) H
  | .insert t x k y => evMapUpdate P t (evO E x) (evO E k) (evO E y) H
  | .range t x => evRange P t (evO E x) H
  | .entry it => val H (evEntry (evO E it) H)
  | .convert s d x => evConvert P s d (evO E x) H
  | .unOp op _ x => (match toV (evO E x) with
    | some x => (match pureV P (Op.unary op x) with | some v => some (cv1 v, H) | none => none)
    | none => none)
  | .call c => (match c.callee with
    | .builtin b => evB P H b c.argTypes ty (c.args.toList.map (evO E))
    | _ => none)
  | _ => none

/-- An operation, made ready. -/
inductive I where
  | mv (x : X)
  | bin (g : Option (IntKind → Int → Int → CV)) (s : CV → CV → Option CV) (x y : X)
  | ld (n : Nat) (x : X)
  | ix (s : Nat) (x i : X)
  | fa (o : Nat) (x : X)
  | pk (c a b : X)
  | ln (x : X) (o : Op) (ty : TypeId)
  | ex (x : X) (i : Nat)
  | cl (f : X) (xs : List X)
  | nx (x : X) (s : Bool)
  | o (o : Op) (ty : TypeId)
  | bad

def comp (o : Op) (ty : TypeId) : I := match o with
  | .move x | .assign x => .mv (compX x)
  | .binOp op t x y _ => .bin (arF op) (binG P op t x y) (compX x) (compX y)
  | .load t x => (match P.underlying t, sizeT P t with
    | some d, some n => .ld (bif notAgg d then 0 else Nat.succ n) (compX x)
    | _, _ => .bad)
  | .indexAddr t x i => (match P.underlying t with
    | some (.slice e) => (match sizeT P e with | some s => .ix s (compX x) (compX i) | none => .bad)
    | _ => .o o ty)
  | .fieldAddr t x k => (match fldT P t k with
    | some f => (match sizeT P f.type with | some s => bif Nat.beq s 0 then .bad else .fa f.offset (compX x) | none => .bad)
    | none => .bad)
  | .pick c a b => .pk (compX c) (compX a) (compX b)
  | .extract x i => .ex (compX x) i
  | .next x s => .nx (compX x) s
  | .call c => (match c.callee, c.args.toList with
    | .value f, xs => .cl (compX f) (xs.map compX)
    | .builtin .len, [x] => (match c.argTypes.toList with | [t] => bif (elemT P t).isSome then .ln (compX x) o ty else .o o ty | _ => .o o ty)
    | _, _ => .o o ty)
  | o => .o o ty

def exBin (g : Option (IntKind → Int → Int → CV)) (s : CV → CV → Option CV) (x y : CV) : Option CV := match x with
  | .i k a => (match y with
    | .i k' b => bif keq k k' then (match g with | some g => some (g k a b) | none => s x y) else s x y
    | _ => s x y)
  | _ => s x y
def exLd (n : Nat) (x : CV) (H : Hp) : Option CV := match x with
  | .p id o => (match rowR H id with
    | some l => Nat.casesOn (motive := fun _ => Option CV) n (nth l o) (fun n => match tk n (drp l o) with | some r => some (.a r) | none => none)
    | none => none)
  | _ => none
def exIx (s : Nat) (x : CV) (i : Option Nat) : Option CV := match i with
  | some i => (match x with
    | .sl id o len _ => bif Nat.blt i len then some (.p id (Nat.add o (Nat.mul i s))) else none
    | .so id k len s' => bif Nat.blt i len && Nat.beq s s' then some (.p id (Nat.mul (Nat.add k i) s)) else none
    | _ => none)
  | none => none
def exFa (o : Nat) (x : CV) : Option CV := match x with
  | .p id k => some (.p id (Nat.add k o))
  | _ => none
def exPk (c : CV) (a b : X) (E : Env) : Option CV := match c with
  | .b q => some (evX E (bif q then a else b))
  | _ => none
def exLn (x : CV) (o : Op) (ty : TypeId) (E : Env) (H : Hp) (w : Option Nat) : Option (CV × Hp) := match x with
  | .sl _ _ n _ => some (.i .i64 (.ofNat n), H)
  | .so _ _ n _ => some (.i .i64 (.ofNat n), H)
  | _ => evOp P o ty E H w
def exEx (x : CV) (i : Nat) : Option CV := match x with
  | .t l => nth l i
  | .v (.tuple a) => (match nth a.toList i with | some v => some (cv1 v) | none => none)
  | _ => none

def exec (i : I) (E : Env) (H : Hp) (w : Option Nat) : Option (CV × Hp) := match i with
  | .mv x => some (evX E x, H)
  | .bin g s x y => val H (exBin g s (evX E x) (evX E y))
  | .ld n x => val H (exLd n (evX E x) H)
  | .ix s x i => val H (exIx s (evX E x) (asN (evX E i)))
  | .fa o x => val H (exFa o (evX E x))
  | .pk c a b => val H (exPk (evX E c) a b E)
  | .ln x o ty => exLn P (evX E x) o ty E H w
  | .ex x i => val H (exEx (evX E x) i)
  | .o o ty => evOp P o ty E H w
  | _ => none

/-- The steps of a range: those that may come next. -/
def evNext (H : Hp) (it : CV) (isS : Bool) : List (CV × Hp) :=
  match it, isS with
  | .p id 0, true => (match H.get id with
    | .si s pos => bif Nat.blt pos s.size then
        (match H.wr id (.si s (pos + (Utf8.decode s pos).2)) with | some H' => [(.t [.b true, .i .i64 pos, .i .i32 (Utf8.decode s pos).1], H')] | none => [])
      else [(.t [.b false], H)]
    | _ => [])
  | .p id 0, false => (match H.get id with
    | .mi (some m) since seen st => (match H.get m with
      | .m es cl =>
        bif es.all (fun e => Nat.blt e.2.2 since) && Nat.ble since st then
        (match es.filter (fun e => !seen.contains e.2.2) with
        | [] => (match H.wr id .free with | some H => [(.t [.b false], H)] | none => [])
        | l => l.filterMap fun e => match H.wr id (.mi (some m) since (seen ++ [e.2.2]) cl) with | some H => some (.t [.b true, e.1, e.2.1], H) | none => none)
        else []
      | _ => [])
    | _ => [])
  | _, _ => []

inductive Out where
  | n (E : Env) (H : Hp)
  | x (id : Nat) (E : Env) (H : Hp)
  | r (E : Env) (H : Hp)
  | bad
  | or (a b : Out)

def Out.bnd (K : Env → Hp → Out) (o : Out) : Out :=
  Out.rec (motive := fun _ => Out) K (fun id E H => .x id E H) (fun E H => .r E H) .bad (fun _ _ a b => .or a b) o

def Out.blk (id : Nat) : Out → Out
  | .n E H => .n E H
  | .x i E H => bif Nat.beq i id then .n E H else .x i E H
  | .r E H => .r E H
  | .bad => .bad
  | .or a b => .or (a.blk id) (b.blk id)

def ors (K : CV → Hp → Out) : List (CV × Hp) → Out
  | [] => .bad
  | [x] => K x.1 x.2
  | x :: y :: r => .or (K x.1 x.2) (ors K (y :: r))

def args : List CV → Nat → Env → Env
  | [], _, E => E
  | x :: r, i, E => args r (Nat.succ i) ((setF CV 3 i).s x E)

/-- An operation of a region, made ready: its guard, itself, where its value goes. -/
structure J where
  g : Option (G Env CV × Bool)
  i : I
  d : Option (S Env CV)

def dstOk (n : Nat) : Option Tmp → Bool
  | some d => Nat.blt d n && Nat.ble n 512
  | none => true
def compJ (n : Nat) (ops : Array Oper) (o : Oper) : J :=
  bif dstOk n o.dst then
    match o.guard with
    | none => ⟨none, comp P o.op o.type, o.dst.map (setF CV 3)⟩
    | some (j, w) => (match (ops[j]?).bind (·.dst) with
      | some t => bif Nat.blt t 512 then ⟨some (getF CV 3 t, w), comp P o.op o.type, o.dst.map (setF CV 3)⟩ else ⟨none, .bad, none⟩
      | none => ⟨none, .bad, none⟩)
  else ⟨none, .bad, none⟩

/-- Whether it is carried out. -/
def want (E : Env) (g : Option (G Env CV × Bool)) : Bool := match g with
  | none => true
  | some (p, w) => (match p.g E with | .b q => bif w then q else not q | _ => false)
def yes (E : Env) (g : Option (G Env CV × Bool)) : Bool := match g with
  | none => true
  | some (p, _) => (match p.g E with | .b _ => true | .v (.tuple _) => true | _ => false)

def putE (E : Env) (d : Option (S Env CV)) (v : CV) : Env := match d with | some d => d.s v E | none => E

def retL (H : Hp) (E : Env) : List ResultVar → Option (List CV)
  | [] => some []
  | .tmp t :: r => (match retL H E r with | some l => some (evO E (.tmp t) :: l) | none => none)
  | .cell a t :: r => (match evO E (.tmp a), retL H E r with
    | .p id o, some l => (match row H id with | some c => (match partC P t c o with | some v => some (v :: l) | none => none) | none => none)
    | _, _ => none)
def retV (H : Hp) (fn : Func) (E : Env) : Option CV := match retL P H E fn.results.toList with
  | some [x] => some x
  | some l => some (.t l)
  | none => none
end
end
end Go.Proofs.YtindppnanjcoaaaGreatDoor.Ev
end
section
namespace Go.Proofs.YtindppnanjcoaaaGreatDoor.Ev
open Go
noncomputable section

def bytesEq : List UInt8 → List UInt8 → Bool
  | [], [] => true
  | a :: l, b :: m => Nat.beq a.toNat b.toNat && bytesEq l m
  | _, _ => false
mutual
def same : CV → CV → Bool
  | .i j a, .i k b => keq j k && ieq a b
  | .b a, .b b => bif a then b else not b
  | .v (.string a), .v (.string b) => bytesEq a.data.toList b.data.toList
  | .v (.slice none 0 0), .v (.slice none 0 0) => true
  | .sl a b c d, .sl e f g h | .so a b c d, .so e f g h => Nat.beq a e && Nat.beq b f && Nat.beq c g && Nat.beq d h
  | .p a b, .p c d => Nat.beq a c && Nat.beq b d
  | .m a, .m b => Nat.beq a b
  | .a l, .a m | .t l, .t m => sames l m
  | .any, .any => true
  | _, _ => false
def sames : List CV → List CV → Bool
  | [], [] => true
  | a :: l, b :: m => same a b && sames l m
  | _, _ => false
end
mutual
/-- Nothing of it stands in a region from n on. -/
def belowN (n : Nat) : CV → Bool
  | .i _ _ | .b _ | .v _ | .cp _ | .any => true
  | .sl i _ _ _ | .so i _ _ _ | .p i _ | .m i => Nat.blt i n
  | .a l | .t l => belowNs n l
  | .f _ l => belowNs n l
def belowNs (n : Nat) : List CV → Bool
  | [] => true
  | x :: l => belowN n x && belowNs n l
end

/-- A program, the functions that ask for the capacity of their first argument, those that range over a map, those that ask whether lists overlap, those of data alone, and calls of these that are known. -/
structure Cx where
  P : Program
  oc : List Nat
  qf : List Nat
  ov : List Nat
  ks : List Nat
  kt : List (Nat × List CV × List (List CV) × CV)

/-- What an operation has to do with the heap. -/
inductive Kind where
  | n
  | r (id : Nat)
  | w (id : Nat)
  | x
  | b

/-- It leaves the heap as it is. -/
def Kind.rd : Kind → Bool
  | .n | .r _ => true
  | _ => false

def kindO (E : Env) (o : Op) : Kind := match o with
  | .unOp .. | .build .. | .indexAddr .. | .nilCheck _ | .makeFunc .. | .index .. => .n
  | .slice _ x _ _ _ => (match evO E x with | .so id _ _ _ => .r id | _ => .n)
  | .lookup _ x _ _ => (match evO E x with | .m id => .r id | _ => .b)
  | .store _ x _ => (match evO E x with | .p id _ => .w id | _ => .b)
  | .alloc _ | .box .. | .buildSlice .. | .makeSlice .. | .makeMap .. => .x
  | .convert _ _ x => (match evO E x with | .i _ _ => .n | _ => .b)
  | .call c => (match c.callee with
    | .builtin .len => (match c.args.toList with | [x] => (match evO E x with | .m id => .r id | _ => .n) | _ => .b)
    | .builtin .min | .builtin .max => .n
    | _ => .b)
  | _ => .b
def kindI (E : Env) (i : I) (pair : Bool) : Kind := match i with
  | .mv _ | .bin .. | .ix .. | .fa .. | .pk .. | .ex .. => .n
  | .ld _ x => (match evX E x with | .p id _ => .r id | _ => .b)
  | .ln x o _ => (match evX E x with | .sl _ _ _ _ | .so _ _ _ _ => .n | _ => kindO E o)
  | .cl _ _ => bif pair then .x else .b
  | .o o _ => kindO E o
  | _ => .b

/- Which operations of a region are ordered: sets of numbers as numbers. -/
def bit (i : Nat) : Nat := Nat.pow 2 i
def hasB (m i : Nat) : Bool := Nat.beq (Nat.mod (Nat.div m (bit i)) 2) 1
def edges (acc : Nat → Nat) : List Edge → Nat → Nat
  | [], m => m
  | e :: r, m => bif Region.binds .any e then edges acc r (Nat.lor (Nat.lor m (bit e.on)) (acc e.on)) else edges acc r m
/-- What stands before each operation. -/
def befo : List Oper → List Nat → List Nat
  | [], acc => acc
  | o :: r, acc => befo r (acc ++ [edges (fun i => (nth acc i).getD 0) o.after.toList 0])

def memN (l : List Nat) (i : Nat) : Bool := l.any (Nat.beq · i)

def unordJ (m j : Nat) : Nat → List (Nat × Nat)
  | 0 => []
  | i + 1 => bif hasB m i then unordJ m j i else (i, j) :: unordJ m j i
def unordF : List Nat → Nat → List (Nat × Nat)
  | [], _ => []
  | m :: r, j => unordJ m j j ++ unordF r (Nat.succ j)
/-- Pairs i < j of a region without an order. -/
def unord (ops : Array Oper) : List (Nat × Nat) := unordF (befo ops.toList []) 0

def loudS (o : Op) : Bool := match o with
  | .move _ | .assign _ | .pick .. | .binOp .. | .unOp .. | .extract .. | .build .. | .fieldAddr .. | .indexAddr .. | .nilCheck _ | .makeFunc .. | .index .. => false
  | .call c => (match c.callee with | .builtin .min | .builtin .max => false | _ => true)
  | _ => true
def allocS (o : Op) : Bool := match o with
  | .alloc _ | .box .. | .buildSlice .. | .makeSlice .. | .makeMap .. => true
  | _ => false
def growS (o : Op) : Bool := match o with
  | .alloc _ | .box .. | .buildSlice .. | .makeSlice .. | .makeMap .. => true
  | .call c => (match c.callee with | .value _ => true | _ => false)
  | _ => false
def opAt (ops : Array Oper) (i : Nat) (f : Op → Bool) : Bool := match nth ops.toList i with | some o => f o.op | none => false
def loudP (ops : Array Oper) : List (Nat × Nat) := (unord ops).filter fun p => opAt ops p.1 loudS && opAt ops p.2 loudS

/-- An operation that makes a region while another one may: its place is kept. -/
def rvOf (ops : Array Oper) : Option Nat :=
  match (loudP ops).filter fun p => (opAt ops p.1 allocS && opAt ops p.2 growS) || (opAt ops p.2 allocS && opAt ops p.1 growS) with
  | [] => none
  | (i, j) :: _ => bif opAt ops i allocS then some i else some j
def inP (l : List (Nat × Nat)) (i : Nat) : Bool := l.any fun p => Nat.beq p.1 i || Nat.beq p.2 i
def hidS (ops : Array Oper) (rv : Option Nat) (i : Nat) : Bool := match rv with
  | none => false
  | some r => (unord ops).any fun p => (Nat.beq p.1 i && Nat.beq p.2 r) || (Nat.beq p.1 r && Nat.beq p.2 i)

/- What the slots of unordered operations have in common. -/
def slots (ops : Array Oper) (o : Oper) : List Nat :=
  (o.op.operands.toList.filterMap fun | .tmp t => some t | _ => none) ++ (match o.guard with | some (j, _) => ((ops[j]?).bind (·.dst)).toList | none => [])
def apart (ops : Array Oper) (p : Nat × Nat) : Bool := match nth ops.toList p.1, nth ops.toList p.2 with
  | some a, some b => (match a.dst with | some d => !memN (slots ops b) d && !memN b.dst.toList d | none => true) && (match b.dst with | some d => !memN (slots ops a) d | none => true)
  | _, _ => false
def edgesOk : List Oper → Nat → Bool
  | [], _ => true
  | o :: r, i => o.after.toList.all (fun e => !Region.binds .any e || Nat.blt e.on i) && edgesOk r (i + 1)
def okS (ops : Array Oper) : Bool := edgesOk ops.toList 0 && (unord ops).all (apart ops)

/-- Nothing of a region changes the heap. -/
def calmO (o : Op) : Bool := match o with
  | .move _ | .assign _ | .pick .. | .binOp .. | .unOp .. | .extract .. | .build .. | .fieldAddr .. | .indexAddr .. | .nilCheck _ | .makeFunc .. | .index .. | .load .. | .lookup .. | .slice .. => true
  | .call c => (match c.callee, c.args.toList with | .builtin .min, _ | .builtin .max, _ | .builtin .len, [_] => true | _, _ => false)
  | _ => false
def calm (ops : Array Oper) : Bool := ops.toList.all fun o => calmO o.op

def compat (n0 : Nat) (u v : Kind) : Bool := match u with
  | .n => true
  | .r i => (match v with | .n | .r _ => true | .w j => !Nat.beq i j && Nat.blt i 4096 && Nat.blt j 4096 | .x => Nat.blt i n0 | .b => false)
  | .w i => (match v with | .n => true | .r j => !Nat.beq i j && Nat.blt i 4096 && Nat.blt j 4096 | _ => false)
  | .x => (match v with | .n => true | .r j => Nat.blt j n0 | _ => false)
  | .b => (match v with | .n => true | _ => false)

/-- An operation of a region whose order is drawn, made ready. -/
structure JD where
  j : J
  pair : Bool
  hid : Bool
  rv : Bool

section
variable (C : Cx)

def compD (n : Nat) (ops : Array Oper) : List JD :=
  let rv := rvOf ops
  let lp := loudP ops
  (List.range ops.size).map fun i => match nth ops.toList i with
    | some o => ⟨compJ C.P n ops o, inP lp i, hidS ops rv i, (match rv with | some r => Nat.beq r i | none => false)⟩
    | none => ⟨⟨none, .bad, none⟩, false, false, false⟩

/-- What a way through a function comes to. -/
def fin (fn : Func) : Out → Option (CV × Hp)
  | .n E H | .r E H => (match retV C.P H fn E with | some v => some (v, H) | none => none)
  | _ => none

/-- A list that stands by itself, as if it were the only region from n on. -/
def canon (n : Nat) (x : CV) (H : Hp) : Option (CV × List CV) := match x with
  | .so i 0 k s => bif Nat.ble n i then (match row H i with | some l => bif belowNs n l then some (.so n 0 k s, l) else none | none => none) else none
  | _ => none

def finQ (n : Nat) (fn : Func) : Out → Option (CV × List CV)
  | .n E H | .r E H => (match retV C.P H fn E with | some v => canon n v H | none => none)
  | .or a b => (match finQ n fn a, finQ n fn b with
    | some (v, l), some (v', l') => bif same v v' && sames l l' then some (v, l) else none
    | _, _ => none)
  | _ => none

def noEnv : Env := allT CV (.v undef) 3
def fnOf (f : Nat) : Option Func := C.P.funcs[f]?

def callQ (rn : Nat → Code → Env → Hp → Out) (f : Nat) (xs : List CV) (H : Hp) : Option (CV × Hp) :=
  match fnOf C f with
  | some fn => (match fn.body with
    | some c => bif Nat.ble xs.length fn.ntmps && Nat.ble fn.ntmps 512 then (match finQ C H.n fn (rn fn.ntmps c (args xs 0 noEnv) ⟨H.h, H.n, H.n⟩) with
      | some (v, l) => H.new (.c l) fun _ => v
      | none => none) else none
    | none => none)
  | none => none

def callX (f : Nat) (xs : List CV) (H : Hp) : Option (CV × Hp) := match xs with
  | [.sl i _ m _, .so j _ n _] => bif memN C.ov f && !Nat.beq i j && Nat.blt 0 m && Nat.blt 0 n && Nat.ble H.fl j then
      (match row H i, row H j with | some _, some _ => some (.b false, H) | _, _ => none) else none
  | _ => none

def callW (rn : Nat → Code → Env → Hp → Out) (f : Nat) (xs : List CV) (H : Hp) : Option (CV × Hp) :=
  match fnOf C f with
  | some fn => (match fn.body with
    | some c => bif Nat.ble xs.length fn.ntmps && Nat.ble fn.ntmps 512 then fin C fn (rn fn.ntmps c (args xs 0 noEnv) H) else none
    | none => callX C f xs H)
  | none => none

/-- A call whose function asks for the capacity of its first argument: read as if it were full, and as if it were not. -/
def callO (rn : Nat → Code → Env → Hp → Out) (f : Nat) (id len s : Nat) (xs : List CV) (H : Hp) : Option (CV × Hp) :=
  match row H id, H.wr id .free with
  | some l, some H0 => bif Nat.beq l.length (len * s) && Nat.blt 0 len && Nat.blt 0 s && Nat.blt H.n 4096 then
    (match callW C rn f (.sl H.n 0 len len :: xs) ⟨(setF AO 4 H.n).s (.c l) H0.h, H.n + 1, H.n⟩, callW C rn f (.so H.n 0 len s :: xs) ⟨(setF AO 4 H.n).s (.c (l ++ rep s [.any])) H0.h, H.n + 1, H.n⟩ with
    | some (x, HA), some (y, HB) => (match canon H.n x HA, canon H.n y HB with
      | some (v, a), some (v', b) => bif same v v' && sames a b then some (v, ⟨(setF AO 4 H.n).s (.c a) H0.h, H.n + 1, H.fl⟩) else none
      | _, _ => none)
    | _, _ => none) else none
  | _, _ => none

/- Arguments and what they lead to, by themselves. -/
def dcs (f : CV → Hp → Option (CV × Hp)) : List CV → Hp → Option (List CV × Hp)
  | [], K => some ([], K)
  | x :: r, K => match f x K with
    | some (x, K) => (match dcs f r K with | some (r, K) => some (x :: r, K) | none => none)
    | none => none
def dcR (f : CV → Hp → Option (CV × Hp)) (H : Hp) (id : Nat) (K : Hp) (g : Nat → CV) : Option (CV × Hp) := match rowR H id with
  | some l => (match dcs f l K with | some (l, K) => K.new (.k l) g | none => none)
  | none => none
def dc (H : Hp) : Nat → CV → Hp → Option (CV × Hp)
  | 0, _, _ => none
  | n + 1, x, K => match x with
    | .i k n => some (.i k n, K)
    | .b q => some (.b q, K)
    | .v x => some (.v x, K)
    | .a l => (match dcs (dc H n) l K with | some (l, K) => some (.a l, K) | none => none)
    | .sl id o l c => dcR (dc H n) H id K fun i => .sl i o l c
    | .so id k l s => dcR (dc H n) H id K fun i => .so i k l s
    | .p id o => dcR (dc H n) H id K fun i => .p i o
    | _ => none
def noHp : Hp := ⟨allT AO .free 4, 0, 0⟩
def rowsEq (K : Hp) : List (List CV) → Nat → Bool
  | [], i => Nat.beq i K.n
  | l :: r, i => (match rowR K i with | some m => sames m l | none => false) && rowsEq K r (Nat.succ i)
def known (f : Nat) (xs : List CV) (K : Hp) : List (Nat × List CV × List (List CV) × CV) → Option CV
  | [] => none
  | (g, ys, rs, v) :: r => bif Nat.beq f g && sames xs ys && rowsEq K rs 0 then some v else known f xs K r

def scalar (x : CV) : Bool := match toV x with | some _ => true | none => false
/-- A call of data alone: what it comes to does not hang on where they stand. -/
def callS (rn : Nat → Code → Env → Hp → Out) (f : Nat) (xs : List CV) (H : Hp) : Option (CV × Hp) := match dcs (dc H 6) xs noHp with
  | some (ys, K) => (match known f ys K C.kt with
    | some v => some (v, H)
    | none => (match callW C rn f ys ⟨K.h, K.n, K.n⟩ with
      | some (v, _) => bif scalar v then some (v, H) else none
      | none => none))
  | none => none

def callF (rn : Nat → Code → Env → Hp → Out) (f : Nat) (xs : List CV) (H : Hp) : Option (CV × Hp) :=
  bif memN C.ks f then callS C rn f xs H else
  bif memN C.qf f then callQ C rn f xs H else
  bif memN C.oc f then (match xs with | .so id 0 len s :: r => callO C rn f id len s r H | xs => callW C rn f xs H) else callW C rn f xs H

abbrev Rn := Nat → List CV → Hp → Option (CV × Hp)

/-- A call of a function's value. -/
def callV (rn : Rn) (E : Env) (f : X) (xs : List X) (H : Hp) : Option (CV × Hp) := match evX E f with
  | .f fn caps => (match fn with | .func g => rn g (xs.map (evX E) ++ caps) H | _ => none)
  | _ => none

/-- One operation of a region whose order is drawn: its value, and the heap behind it. -/
def stpH (rn : Rn) (rid : Nat) (j : JD) (k : Kind) (E : Env) (H : Hp) : Option (CV × Hp) := match j.j.i with
  | .cl f xs => (match k with
    | .x => (match callV rn E f xs ⟨H.h, H.n, H.n⟩ with | some (v, H') => some (v, Hp.mk H'.h H'.n H.fl) | none => none)
    | _ => callV rn E f xs H)
  | i => exec C.P i E H (bif j.rv then some rid else none)
def stpW (rn : Rn) (rid : Nat) (j : JD) (k : Kind) (E : Env) (H : Hp) : Option (CV × Hp) := bif j.hid then
    match stpH C rn rid j k E ⟨(setF AO 4 rid).s .free H.h, H.n, H.fl⟩ with
    | some (v, H') => some (v, ⟨(setF AO 4 rid).s (H.get rid) H'.h, H'.n, H'.fl⟩)
    | none => none
  else stpH C rn rid j k E H
def stpV (rn : Rn) (rid : Nat) (j : JD) (E : Env) (H : Hp) : Option (Kind × CV × Hp) :=
  bif want E j.j.g then (match stpW C rn rid j (kindI E j.j.i j.pair) E H with
    | some (v, H') => some (kindI E j.j.i j.pair, v, H')
    | none => none)
  else bif yes E j.j.g then some (.n, .v undef, H) else none
def stp (rn : Rn) (rid : Nat) (j : JD) (E : Env) (H : Hp) : Option (Kind × Env × Hp) := match stpV C rn rid j E H with
  | some (k, v, H') => some (k, putE E j.j.d v, H')
  | none => none

def stps (rn : Rn) (rid : Nat) : List JD → Env → Hp → Option (List Kind × Env × Hp)
  | [], E, H => some ([], E, H)
  | j :: r, E, H => match stp C rn rid j E H with
    | some (k, E, H) => (match stps rn rid r E H with | some (ks, E, H) => some (k :: ks, E, H) | none => none)
    | none => none

def okK (rv : Option Nat) (n0 : Nat) (ks : List Kind) (p : Nat × Nat) : Bool := match rv with
  | some r => Nat.beq p.1 r || Nat.beq p.2 r || (match nth ks p.1, nth ks p.2 with | some u, some v => u.rd && v.rd | _, _ => false)
  | none => (match nth ks p.1, nth ks p.2 with | some u, some v => compat n0 u v | _, _ => false)

def drawn (n : Nat) (rn : Rn) (ops : Array Oper) (E : Env) (H : Hp) : Out :=
  match (match rvOf ops with | some _ => H.new .res fun _ => .any | none => some (.any, H)) with
  | some (_, H1) => (match stps C rn H.n (compD C n ops) E H1 with
    | some (ks, E', H') => bif (loudP ops).all (okK (rvOf ops) H.n ks) then .n E' H' else .bad
    | none => .bad)
  | none => .bad

/-- What an operation comes to, and then the rest. -/
def next1 (r : Option (CV × Hp)) (d : Option (S Env CV)) (E : Env) (K : Env → Hp → Out) : Out := match r with
  | some (v, H) => K (putE E d v) H
  | none => .bad
def doJ (rn : Rn) (j : J) (E : Env) (H : Hp) (K : Env → Hp → Out) : Out := match j.i with
  | .nx x s => ors (fun v H => K (putE E j.d v) H) (evNext H (evX E x) s)
  | .cl f xs => next1 (callV rn E f xs H) j.d E K
  | i => next1 (exec C.P i E H none) j.d E K
def stepJ (rn : Rn) (j : J) (E : Env) (H : Hp) (K : Env → Hp → Out) : Out :=
  bif want E j.g then doJ C rn j E H K else bif yes E j.g then K (putE E j.d (.v undef)) H else .bad

/-- An operation as what it does to the rest. -/
structure KJ where
  f : Env → Hp → (Env → Hp → Out) → Out

def mvC (x : X) (d : S Env CV) (E : Env) (H : Hp) (K : Env → Hp → Out) : Out := K (d.s (evX E x) E) H
def vlC (f : Env → Hp → Option CV) (d : S Env CV) (E : Env) (H : Hp) (K : Env → Hp → Out) : Out :=
  Option.rec (motive := fun _ => Out) .bad (fun v => K (d.s v E) H) (f E H)
def bnC (g : IntKind → Int → Int → CV) (s : CV → CV → Option CV) (x y : X) (E : Env) (_ : Hp) : Option CV := exBin (some g) s (evX E x) (evX E y)
def ldC (n : Nat) (x : X) (E : Env) (H : Hp) : Option CV := exLd n (evX E x) H
def ixC (s : Nat) (x i : X) (E : Env) (_ : Hp) : Option CV := exIx s (evX E x) (asN (evX E i))
def faC (o : Nat) (x : X) (E : Env) (_ : Hp) : Option CV := exFa o (evX E x)
def pkC (c a b : X) (E : Env) (_ : Hp) : Option CV := exPk (evX E c) a b E
def exC (x : X) (i : Nat) (E : Env) (_ : Hp) : Option CV := exEx (evX E x) i

def compK (rn : Rn) (j : J) : KJ := match j.g, j.d, j.i with
  | none, some d, .mv x => ⟨mvC x d⟩
  | none, some d, .bin (some g) s x y => ⟨vlC (bnC g s x y) d⟩
  | none, some d, .ld n x => ⟨vlC (ldC n x) d⟩
  | none, some d, .ix s x i => ⟨vlC (ixC s x i) d⟩
  | none, some d, .fa o x => ⟨vlC (faC o x) d⟩
  | none, some d, .pk c a b => ⟨vlC (pkC c a b) d⟩
  | none, some d, .ex x i => ⟨vlC (exC x i) d⟩
  | _, _, _ => ⟨stepJ C rn j⟩

def regL (js : List KJ) : Env → Hp → Out :=
  List.rec (motive := fun _ => Env → Hp → Out) (fun E H => .n E H) (fun j _ ih E H => j.f E H ih) js

def lpF (n : Nat) (K : Env → Hp → Out) : Env → Hp → Out :=
  Nat.rec (motive := fun _ => Env → Hp → Out) (fun _ _ => .bad) (fun _ ih E H => Out.bnd ih (K E H)) n

def cndF (c : CV) (a b : Env → Hp → Out) (E : Env) (H : Hp) : Out := match c with
  | .b q => (bif q then a else b) E H
  | _ => .bad

/-- Code as what it comes to. -/
structure KC where
  f : Env → Hp → Out
def sqC (a b : KC) (E : Env) (H : Hp) : Out := Out.bnd b.f (a.f E H)
def cdC (c : X) (a b : KC) (E : Env) (H : Hp) : Out := cndF (evX E c) a.f b.f E H
def bkC (id : Nat) (b : KC) (E : Env) (H : Hp) : Out := Out.blk id (b.f E H)
def lpC (b : KC) (E : Env) (H : Hp) : Out := lpF 5000 b.f E H
def rgC (js : List KJ) (E : Env) (H : Hp) : Out := regL js E H
def bdC (_ : Env) (_ : Hp) : Out := .bad
def regK (n : Nat) (rn : Rn) (ops : Array Oper) : List KJ := ops.toList.map fun o => compK C rn (compJ C.P n ops o)

def comC (n : Nat) (rn : Rn) (c : Code) : KC := match c with
  | .skip | .label _ => ⟨.n⟩
  | .region _ ops draw => bif draw then (bif okS ops then (bif calm ops then ⟨rgC (regK C n rn ops)⟩ else ⟨drawn C n rn ops⟩) else ⟨bdC⟩) else ⟨rgC (regK C n rn ops)⟩
  | .seq a b => ⟨sqC (comC n rn a) (comC n rn b)⟩
  | .cond c a b => ⟨cdC (compX c) (comC n rn a) (comC n rn b)⟩
  | .block id b => ⟨bkC id (comC n rn b)⟩
  | .loop b => ⟨lpC (comC n rn b)⟩
  | .exit id => ⟨.x id⟩
  | .ret => ⟨.r⟩
  | _ => ⟨bdC⟩
def run (rn : Rn) (n : Nat) (c : Code) (E : Env) (H : Hp) : Out := (comC C n rn c).f E H

def call (n : Nat) : Rn :=
  Nat.rec (motive := fun _ => Rn) (fun _ _ _ => none) (fun _ ih f xs H => callF C (run C ih) f xs H) n
end
end
end Go.Proofs.YtindppnanjcoaaaGreatDoor.Ev
end
