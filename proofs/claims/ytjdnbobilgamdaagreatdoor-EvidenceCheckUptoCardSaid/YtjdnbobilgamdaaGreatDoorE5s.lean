/- A computing reader of the program: values, a heap of regions by number, what each operation comes to. The computing reader: statements, calls, regions whose order is open. The computing reader and the model: what its trees keep, what its values and regions stand for, how a world may evolve. Conditions: none. -/
import Derived.Test.YtjdnbobilgamdaaGreatDoorAl
import Derived.Calls
import Derived.Orders
import Derived.Test.YtjdnbobilgamdaaGreatDoorAb7
section
namespace Go.Proofs.YtjdnbobilgamdaaGreatDoor.Ev
open Go
noncomputable section
inductive CV where
 |i (k:IntKind) (n:Int)
 |b (q:Bool)
 |v (x:Value)
 |sl (id o len cap:Nat)
 |so (id k len s:Nat)
 |p (id o:Nat)
 |m (id:Nat)
 |f (fn:Fn) (lK:List CV)
 |a (l:List CV)
 |t (l:List CV)
 |cp (lo:Nat)
 |any
 deriving Inhabited
inductive AO where
 |free
 |res
 |c (l:List CV)
 |k (l:List CV)
 |m (es:List (CV×CV×Nat)) (clock:Nat)
 |si (s:ByteArray) (pos:Nat)
 |mi (m:Option Nat) (since:Nat) (seen:List Nat) (XM:Nat)
 deriving Inhabited
structure N(α:Type) where
 a:α
 b:α
 c:α
 d:α
 e:α
 f:α
 g:α
 h:α
def Tr(α:Type):Nat→Type
 |0=>α
 |k+1=>N (Tr α k)
structure G(A B:Type) where
 g:A→B
structure S(A B:Type) where
 s:B→A→A
section
variable {A B:Type}
def g0(f:G A B)(E:N A):B:=f.g E.a
def g1(f:G A B)(E:N A):B:=f.g E.b
def g2(f:G A B)(E:N A):B:=f.g E.c
def g3(f:G A B)(E:N A):B:=f.g E.d
def g4(f:G A B)(E:N A):B:=f.g E.e
def g5(f:G A B)(E:N A):B:=f.g E.f
def g6(f:G A B)(E:N A):B:=f.g E.g
def g7(f:G A B)(E:N A):B:=f.g E.h
def s0(f:S A B)(x:B)(E:N A):N A:=⟨f.s x E.a,E.b,E.c,E.d,E.e,E.f,E.g,E.h⟩
def s1(f:S A B)(x:B)(E:N A):N A:=⟨E.a,f.s x E.b,E.c,E.d,E.e,E.f,E.g,E.h⟩
def s2(f:S A B)(x:B)(E:N A):N A:=⟨E.a,E.b,f.s x E.c,E.d,E.e,E.f,E.g,E.h⟩
def s3(f:S A B)(x:B)(E:N A):N A:=⟨E.a,E.b,E.c,f.s x E.d,E.e,E.f,E.g,E.h⟩
def s4(f:S A B)(x:B)(E:N A):N A:=⟨E.a,E.b,E.c,E.d,f.s x E.e,E.f,E.g,E.h⟩
def s5(f:S A B)(x:B)(E:N A):N A:=⟨E.a,E.b,E.c,E.d,E.e,f.s x E.f,E.g,E.h⟩
def s6(f:S A B)(x:B)(E:N A):N A:=⟨E.a,E.b,E.c,E.d,E.e,E.f,f.s x E.g,E.h⟩
def s7(f:S A B)(x:B)(E:N A):N A:=⟨E.a,E.b,E.c,E.d,E.e,E.f,E.g,f.s x E.h⟩
end
def pick{α:Type}(i:Nat)(x0 x1 x2 x3 x4 x5 x6 x7:α):α:=
 bif Nat.beq i 0 then x0 else bif Nat.beq i 1 then x1 else bif Nat.beq i 2 then x2 else bif Nat.beq i 3 then x3 else bif Nat.beq i 4 then x4 else bif Nat.beq i 5 then x5 else bif Nat.beq i 6 then x6 else x7
def iM(α:Type):(k:Nat)→Nat→G (Tr α k) α
 |0,_=>⟨fun x=>x⟩
 |k+1,i=>pick (Nat.mod i 8) ⟨g0 (iM α k (Nat.div i 8))⟩ ⟨g1 (iM α k (Nat.div i 8))⟩ ⟨g2 (iM α k (Nat.div i 8))⟩ ⟨g3 (iM α k (Nat.div i 8))⟩ ⟨g4 (iM α k (Nat.div i 8))⟩ ⟨g5 (iM α k (Nat.div i 8))⟩ ⟨g6 (iM α k (Nat.div i 8))⟩ ⟨g7 (iM α k (Nat.div i 8))⟩
def bg(α:Type):(k:Nat)→Nat→S (Tr α k) α
 |0,_=>⟨fun x _=>x⟩
 |k+1,i=>pick (Nat.mod i 8) ⟨s0 (bg α k (Nat.div i 8))⟩ ⟨s1 (bg α k (Nat.div i 8))⟩ ⟨s2 (bg α k (Nat.div i 8))⟩ ⟨s3 (bg α k (Nat.div i 8))⟩ ⟨s4 (bg α k (Nat.div i 8))⟩ ⟨s5 (bg α k (Nat.div i 8))⟩ ⟨s6 (bg α k (Nat.div i 8))⟩ ⟨s7 (bg α k (Nat.div i 8))⟩
def Bn(α:Type)(x:α):(k:Nat)→Tr α k
 |0=>x
 |k+1=>⟨Bn α x k,Bn α x k,Bn α x k,Bn α x k,Bn α x k,Bn α x k,Bn α x k,Bn α x k⟩
structure Hp where
 h:Tr AO 4
 n:Nat
 fl:Nat
abbrev Env:=Tr CV 3
def Tk{β:Type}(f:Nat→β)(n:Nat):β:=Nat.rec (motive:=fun _=>β) (f 0) (fun k _=>f (Nat.succ k)) n
def Hp.get(H:Hp)(id:Nat):AO:=Tk (fun id=>(iM AO 4 id).g H.h) id
def Hp.wr(H:Hp)(id:Nat)(x:AO):Option Hp:=bif Nat.ble H.fl id then some (Tk (fun id=>Tk (fun n=>Tk (fun fl=>⟨(bg AO 4 id).s x H.h,n,fl⟩) H.fl) H.n) id) else none
def Hp.new(H:Hp)(x:AO)(v:Nat→CV):Option (CV×Hp):=bif Nat.blt H.n 4096 then some (Tk (fun n=>Tk (fun fl=>(v n,⟨(bg AO 4 n).s x H.h,Nat.succ n,fl⟩)) H.fl) H.n) else none
def xC:Value→CV
 |.int k n=>.i k n
 |.bool b=>.b b
 |v=>.v v
def Qf:Value→CV
 |.agg cs=>.a (cs.toList.map xC)
 |v=>xC v
def qM(P:Program){α:Type}:Sem α→Option α
 |.pure a=>some a
 |.program k=>qM P (k P)
 |_=>none
mutual
def Cb:CV→Option Value
 |.i k n=>some (.int k n)
 |.b q=>some (.bool q)
 |.v x=>some x
 |.a l=>match FZ l with|some l=>some (.agg l.toArray)|none=>none
 |.t l=>match FZ l with|some l=>some (.tuple l.toArray)|none=>none
 |_=>none
def FZ:List CV→Option (List Value)
 |[]=>some []
 |x::r=>match Cb x,FZ r with|some y,some s=>some (y::s)|_,_=>none
end
def cells:CV→List CV
 |.a l=>l
 |x=>[x]
def nth{α:Type}(l:List α):Nat→Option α:=
 List.rec (motive:=fun _=>Nat→Option α) (fun _=>none) (fun x _ ih i=>Nat.casesOn (motive:=fun _=>Option α) i (some x) ih) l
def Qg{α:Type}:List α→Nat→List α
 |[],_=>[]
 |x::l,i=>bif Nat.beq i 0 then x::l else Qg l (i-1)
def tk{α:Type}:Nat→List α→Option (List α)
 |0,_=>some []
 |_+1,[]=>none
 |n+1,x::l=>match tk n l with|some r=>some (x::r)|none=>none
def RK{α:Type}:List α→List α→Option (List α)
 |l,[]=>some l
 |[],_::_=>none
 |_::l,c::cs=>match RK l cs with|some r=>some (c::r)|none=>none
def eK{α:Type}:List α→Nat→List α→Option (List α)
 |[],o,cs=>bif Nat.beq o 0 then RK [] cs else none
 |x::l,o,cs=>bif Nat.beq o 0 then RK (x::l) cs else match eK l (o-1) cs with|some r=>some (x::r)|none=>none
def fN:CV→Bool
 |.v (.agg _)|.v (.tuple _)|.a _|.t _|.any=>false
 |_=>true
def Bo(c:CV):Option (List CV):=match c with
 |.a l=>some l
 |c=>bif fN c then some [c] else none
def nE:TypeDesc→Bool
 |.struct _|.array _ _=>false
 |_=>true
def YX:IntKind→Nat
 |.i8=>0|.i16=>1|.i32=>2|.i64=>3|.u8=>4|.u16=>5|.u32=>6|.u64=>7
def XN(j k:IntKind):Bool:=Nat.beq (YX j) (YX k)
def Qh:Nat:=9223372036854775808
def Qi(n:Int):Int:=match n with
 |.ofNat m=>bif Nat.blt m Qh then .ofNat m else IntKind.i64.wrap (.ofNat m)
 |.negSucc m=>bif Nat.blt m Qh then .negSucc m else IntKind.i64.wrap (.negSucc m)
def wr(k:IntKind)(n:Int):Int:=bif Nat.beq (YX k) 3 then Qi n else k.wrap n
def Qj:Int→Int→Bool
 |.ofNat a,.ofNat b=>Nat.blt a b
 |.negSucc _,.ofNat _=>true
 |.ofNat _,.negSucc _=>false
 |.negSucc a,.negSucc b=>Nat.blt b a
def RL:Int→Int→Bool
 |.ofNat a,.ofNat b=>Nat.beq a b
 |.negSucc a,.negSucc b=>Nat.beq a b
 |_,_=>false
inductive X where
 |t (p:G Env CV)
 |c (v:CV)
def dK:Operand→X
 |.tmp t=>bif Nat.blt t 512 then .t (iM CV 3 t) else .c .any
 |.const v=>.c (Qf v)
 |.func f=>.c (.f (.func f) [])
 |.global _=>.c .any
def qo(E:Env)(x:X):CV:=X.rec (motive:=fun _=>CV) (fun p=>p.g E) (fun v=>v) x
def eO(E:Env)(x:Operand):CV:=qo E (dK x)
section
variable (P:Program)
def kU(t:TypeId):Option Nat:=match P.info? t with|some i=>some i.size|none=>none
def wR(t:TypeId):Option (List CV):=match P.info? t with|some i=>(match i.zero with|some z=>some (z.cells.toList.map xC)|none=>none)|none=>none
def zeroV(t:TypeId):Option CV:=match P.info? t with|some i=>(match i.zero with|some z=>some (Qf z)|none=>none)|none=>none
def u_(t:TypeId):Bool:=match P.info? t with|some i=>Nat.ble i.bytes 65536|none=>false
def iN(t:TypeId):Option TypeId:=match P.underlying t with|some (.slice e)=>some e|_=>none
def Tl(t:TypeId)(k:Nat):Option Field:=match P.underlying t with|some (.struct fs)=>fs[k]?|_=>none
def C_(t:TypeId)(l:List CV)(off:Nat):Option CV:=
 match P.underlying t with
 |some d=>bif nE d then nth l off else
  match kU P t with
  |some n=>(match tk n (Qg l off) with|some r=>some (.a r)|none=>none)
  |none=>none
 |none=>none
def row(H:Hp)(id:Nat):Option (List CV):=match H.get id with|.c l=>some l|_=>none
def o_(H:Hp)(id:Nat):Option (List CV):=match H.get id with|.c l=>some l|.k l=>some l|_=>none
def kV(H:Hp)(sz:Nat):CV→Option (List CV)
 |.sl id o len _=>match o_ H id with|some l=>tk (len*sz) (Qg l o)|none=>none
 |.so id k len s=>bif Nat.beq s sz then (match o_ H id with|some l=>tk (len*s) (Qg l (k*s))|none=>none) else none
 |.v (.slice none 0 0)=>some []
 |_=>none
def M5:CV→Option Nat
 |.i _ (.ofNat n)=>some n
 |_=>none
def F0(place:Nat→Option (Nat×Nat)):List CV→List (Nat×CV)→Option (List CV)
 |cs,[]=>some cs
 |cs,(i,x)::r=>match place i,Bo x with
  |some (off,size),some l=>bif Nat.beq l.length size then (match eK cs off l with|some cs=>F0 place cs r|none=>none) else none
  |_,_=>none
def rep{α:Type}:Nat→List α→List α
 |0,_=>[]
 |n+1,l=>l++rep n l
def z_:List (CV×CV×Nat)→Option (List MapEntry)
 |[]=>some []
 |(k,_,b)::r=>match Cb k,z_ r with|some k,some r=>some (⟨k,undef,b⟩::r)|_,_=>none
def Qk:TypeDesc→Bool
 |.int _|.string=>true
 |_=>false
def Jg(kt:TypeId)(k:CV)(es:List (CV×CV×Nat)):Option (Option Nat):=
 match P.underlying kt with
 |some d=>bif Qk d then
  (match Cb k,z_ es with
  |some k,some rs=>(match Instr.findNow d k rs 0 with
   |some (some (i,_))=>some (some i)
   |some none=>some none
   |none=>none)
  |_,_=>none) else none
 |none=>none
def M6:List (CV×CV×Nat)→Nat→CV→List (CV×CV×Nat)
 |[],_,_=>[]
 |(k,x,b)::r,i,y=>bif Nat.beq i 0 then (k,y,b)::r else (k,x,b)::M6 r (i-1) y
def isNil:CV→Option Bool
 |.v (.slice none _ _)=>some true
 |.sl ..|.so ..=>some false
 |_=>none
def V5:BinOp→Option (IntKind→Int→Int→CV)
 |.add=>some fun k a b=>.i k (wr k (Int.add a b))
 |.sub=>some fun k a b=>.i k (wr k (Int.sub a b))
 |.mul=>some fun k a b=>.i k (wr k (Int.mul a b))
 |.lss=>some fun _ a b=>.b (Qj a b)
 |.gtr=>some fun _ a b=>.b (Qj b a)
 |.leq=>some fun _ a b=>.b (not (Qj b a))
 |.geq=>some fun _ a b=>.b (not (Qj a b))
 |.eql=>some fun _ a b=>.b (RL a b)
 |.neq=>some fun _ a b=>.b (not (RL a b))
 |_=>none
def M7(op:BinOp)(t:TypeId)(ox oy:Operand)(x y:CV):Option CV:=
 match x,y with
 |.i .i64 a,.cp lo=>(match op with|.gtr=>bif decide (a≤lo) then some (.b false) else none|_=>none)
 |_,_=>match Cb x,Cb y with
  |some a,some b=>(match qM P (do eqGuard op t ox oy a b;binOp op t a b) with|some r=>some (xC r)|none=>none)
  |_,_=>match op,isNil x,isNil y with
   |.eql,some a,some b=>bif (a||b)&&(iN P t).isSome then some (.b (a&&b)) else none
   |_,_,_=>none
def Bp(H:Hp)(sz:Nat)(x:CV)(new:List CV):Option (CV×Hp):=
 let n:=new.length/sz
 match x with
 |.v (.slice none 0 0)=>bif Nat.beq n 0 then some (x,H) else bif Nat.ble n 250 then H.new (.c new) (.so · 0 n sz) else none
 |.sl id o len cap=>bif Nat.ble (len+n) cap then
   (match bif new.all fN then row H id else none with
   |some l=>(match eK l (o+len*sz) new with
    |some l=>(match H.wr id (.c l) with|some H=>some (.sl id o (len+n) cap,H)|none=>none)
    |none=>none)
   |none=>none)
  else bif Nat.ble (len+n) 250 then (match kV H sz x with
   |some vS=>H.new (.c (vS++new)) (.so · 0 (len+n) sz)
   |none=>none) else none
 |.so id _ len s=>bif Nat.ble (len+n) 250&&Nat.blt 0 n&&new.all fN&&Nat.beq s sz then (match row H id,kV H sz x with
   |some _,some vS=>(match H.wr id .free with|some H=>H.new (.c (vS++new)) (.so · 0 (len+n) sz)|none=>none)
   |_,_=>none) else none
 |_=>none
def Jh(H:Hp)(sz:Nat)(x:CV)(n:Nat)(new:List CV):Option (CV×Hp):=match x with
 |.v (.slice none 0 0)=>bif Nat.blt 0 n&&Nat.ble n 250 then H.new (.c new) (.so · 0 n sz) else none
 |.sl _ _ len cap=>bif Nat.blt cap (len+n)&&Nat.ble (len+n) 250&&Nat.blt 0 n then (match kV H sz x with
   |some vS=>H.new (.c (vS++new)) (.so · 0 (len+n) sz)
   |none=>none) else none
 |_=>none
def RM:Builtin→Bool
 |.len|.cap|.min|.max=>true
 |_=>false
def Bq(H:Hp)(ts:Array TypeId)(x y:CV):Option (CV×Hp):=match ts.toList with
 |[t,u]=>(match iN P t with
  |some e=>(match kU P e,wR P e with
   |some sz,some z=>bif Nat.beq sz z.length&&Nat.blt 0 sz&&u_ P e then
     (bif (iN P u).isSome then (match kV H sz y with|some new=>Bp H sz x new|none=>none)
     else match P.underlying u,y with
      |some (.int _),.i _ (.ofNat n)=>bif Nat.ble n 250 then Jh H sz x n (rep n z) else none
      |_,_=>none) else none
   |_,_=>none)
  |none=>none)
 |_=>none
def H4(H:Hp)(ts:Array TypeId)(x y:CV):Option (CV×Hp):=match x,ts.toList with
 |.so id k len s,t::_=>(match iN P t with
  |some e=>(match kU P e with
   |some sz=>bif Nat.beq s sz then
    (match kV H sz y,row H id with
    |some src,some l=>
     (match tk (Nat.min (src.length/sz) len*sz) src with
     |some M8=>bif M8.all fN then (match eK l (k*s) M8 with
      |some l=>(match H.wr id (.c l) with|some H=>some (.i .i64 (.ofNat (Nat.min (src.length/sz) len)),H)|none=>none)
      |none=>none) else none
     |none=>none)
    |_,_=>none) else none
   |none=>none)
  |none=>none)
 |_,_=>none
def Eg(H:Hp)(ts:Array TypeId)(x:CV):Option (CV×Hp):=match x,ts.toList with
 |.so id k len s,t::_=>(match iN P t with
  |some e=>(match wR P e,row H id with
   |some z,some l=>bif Nat.beq s z.length&&z.all fN&&Nat.blt 0 len then (match eK l (k*s) (rep len z) with
    |some l=>(match H.wr id (.c l) with|some H=>some (.v (.tuple #[]),H)|none=>none)
    |none=>none) else none
   |_,_=>none)
  |none=>none)
 |_,_=>none
def xZ(H:Hp)(ts:Array TypeId)(id:Nat):Option (CV×Hp):=match ts.toList with
 |[t]=>(match P.underlying t,H.get id with|some (.map _ _),.m es _=>some (.i .i64 es.length,H)|_,_=>none)
 |_=>none
def Ji(H:Hp)(ts:Array TypeId)(x:CV):Option (CV×Hp):=match x,ts.toList with
 |.sl _ _ _ c,[t]=>bif (iN P t).isSome then some (.i .i64 c,H) else none
 |.so id k _ s,[t]=>bif (iN P t).isSome then (match row H id with|some l=>some (.cp (l.length/s-k),H)|none=>none) else none
 |_,_=>none
def H5(b:Builtin)(ts:Array TypeId)(ty:TypeId)(xs:List CV):Option CV:=bif RM b then (match FZ xs with
 |some vs=>(match qM P (builtin b ts ty #[] vs.toArray) with
  |some (.value v)=>some (xC v)
  |_=>none)
 |none=>none) else none
def val(H:Hp):Option CV→Option (CV×Hp)
 |some v=>some (v,H)
 |none=>none
def UL(H:Hp)(b:Builtin)(ts:Array TypeId)(ty:TypeId)(xs:List CV):Option (CV×Hp):=match xs with
 |[.m id]=>(match b with|.len=>xZ P H ts id|_=>none)
 |[.sl a b' c d]=>(match b with|.cap=>Ji P H ts (.sl a b' c d)|_=>none)
 |[.so a b' c d]=>(match b with|.cap=>Ji P H ts (.so a b' c d)|.clear=>Eg P H ts (.so a b' c d)|_=>none)
 |xs=>(match b with
  |.append=>(match xs with|[x,y]=>Bq P H ts x y|_=>none)
  |.copy=>(match xs with|[x,y]=>H4 P H ts x y|_=>none)
  |b=>val H (H5 P b ts ty xs))
def put(H:Hp)(w:Option Nat)(x:AO)(K:Nat→CV):Option (CV×Hp):=match w with
 |none=>H.new x K
 |some id=>(match H.get id with|.res=>(match H.wr id x with|some H=>some (K id,H)|none=>none)|_=>none)
def uo(x:Option CV)(d y:Nat):Option Nat:=match x with
 |none=>bif Nat.ble d y then some d else none
 |some x=>(match M5 x with|some n=>bif Nat.ble n y then some n else none|none=>none)
def lA(H:Hp)(t:TypeId)(x:CV)(lo hi:Option CV):Option (CV×Hp):=
 match x with
 |.sl id o len cap=>(match iN P t with
  |some e=>(match kU P e,uo hi len cap with
   |some s,some h=>(match uo lo 0 h with
    |some l=>some (.sl id (bif Nat.beq cap l then o else o+l*s) (h-l) (cap-l),H)
    |none=>none)
   |_,_=>none)
  |none=>none)
 |.so id k len s=>(match iN P t with
  |some e=>(match kU P e with
   |some s'=>bif Nat.beq s s' then
    (match (match uo hi len len with
     |some h=>some h
     |none=>(match row H id with|some l=>uo hi len (l.length/s-k)|none=>none)) with
    |some h=>(match uo lo 0 h with
     |some l=>some (.so id (k+l) (h-l) s,H)
     |none=>none)
    |none=>none) else none
   |none=>none)
  |none=>none)
 |.p id off=>(match P.underlying t with
  |some (.array n e)=>(match kU P e,uo hi n n with
   |some s,some h=>(match uo lo 0 h with
    |some l=>some (.sl id (bif Nat.beq n l then off else off+l*s) (h-l) (n-l),H)
    |none=>none)
   |_,_=>none)
  |_=>none)
 |x=>(match Cb x,lo.map Cb,hi.map Cb with
  |some x,some (some l),some (some h)=>(match qM P (Instr.sliceAt t x (some l) (some h) none) with|some v=>some (xC v,H)|none=>none)
  |some x,some (some l),none=>(match qM P (Instr.sliceAt t x (some l) none none) with|some v=>some (xC v,H)|none=>none)
  |some x,none,some (some h)=>(match qM P (Instr.sliceAt t x none (some h) none) with|some v=>some (xC v,H)|none=>none)
  |some x,none,none=>(match qM P (Instr.sliceAt t x none none none) with|some v=>some (xC v,H)|none=>none)
  |_,_,_=>none)
def Jj(t:TypeId):Option (Nat→Option (Nat×Nat)):=match P.underlying t with
 |some (.struct fs)=>(match fs.toList.mapM (fun f=>(P.info? f.type).map fun i=>(f.offset,i.size)) with|some pl=>some (nth pl)|none=>none)
 |some (.array _ e)=>(match kU P e with|some s=>some fun i=>some (i*s,s)|none=>none)
 |_=>none
def Aa(t:TypeId)(ps:Array (Nat×Operand))(E:Env):Option CV:=match wR P t,Jj P t with
 |some z,some pl=>(match F0 pl z (ps.toList.map fun p=>(p.1,eO E p.2)) with|some cs=>some (.a cs)|none=>none)
 |_,_=>none
def nh(t:TypeId)(len:Nat)(ps:Array (Nat×Operand))(E:Env)(H:Hp)(w:Option Nat):Option (CV×Hp):=match iN P t with
 |some e=>(match kU P e,wR P e with
  |some s,some z=>bif Nat.beq s z.length&&Nat.ble (len*s) 65536 then
   (match F0 (fun i=>some (i*s,s)) (rep len z) (ps.toList.map fun p=>(p.1,eO E p.2)) with
   |some cs=>put H w (.c cs) (.sl · 0 len len)
   |none=>none) else none
  |_,_=>none)
 |none=>none
def Ac(t:TypeId)(x y:CV)(H:Hp):Option (CV×Hp):=match x with
 |.p id o=>(match row H id,kU P t with
  |some l,some s=>bif Nat.beq (cells y).length s&&(cells y).all fN then (match eK l o (cells y) with
    |some l=>(match H.wr id (.c l) with|some H=>some (.v undef,H)|none=>none)
    |none=>none) else none
  |_,_=>none)
 |_=>none
def p_(t:TypeId)(l c:CV)(H:Hp)(w:Option Nat):Option (CV×Hp):=match iN P t with
 |some e=>(match kU P e,wR P e,M5 l,M5 c with
  |some s,some z,some l,some c=>bif Nat.beq s z.length&&Nat.ble l c&&Nat.ble c 65536&&u_ P e then put H w (.c (rep c z)) (.sl · 0 l c) else none
  |_,_,_,_=>none)
 |none=>none
def Br(t:TypeId)(x i:CV):Option CV:=match M5 i,P.underlying t with
 |some i,some (.array n e)=>(match kU P e,x with
  |some s,.p id o=>bif Nat.blt i n then some (.p id (o+i*s)) else none
  |_,_=>none)
 |_,_=>none
def Eh(t:TypeId)(x i:CV):Option CV:=match P.underlying t,x,M5 i with
 |some (.array n e),.a l,some i=>(match kU P e with
  |some s=>bif Nat.blt i n then C_ P e l (i*s) else none
  |none=>none)
 |some .string,.v (.string s),some i=>(match nth s.data.toList i with|some b=>some (.i .u8 b.toNat)|none=>none)
 |_,_,_=>none
def ni(t:TypeId)(x k:CV)(ok:Bool)(H:Hp):Option CV:=match P.underlying t,x with
 |some (.map kt et),.m id=>(match H.get id with
  |.m es _=>(match Jg P kt k es with
   |some (some i)=>(match nth es i with|some e=>some (bif ok then .t [e.2.1,.b true] else e.2.1)|none=>none)
   |some none=>(match zeroV P et with|some z=>some (bif ok then .t [z,.b false] else z)|none=>none)
   |none=>none)
  |_=>none)
 |_,_=>none
def qa(t:TypeId)(x k y:CV)(H:Hp):Option (CV×Hp):=match P.underlying t,x with
 |some (.map kt _),.m id=>(match H.get id with
  |.m es cl=>(match Jg P kt k es with
   |some (some i)=>(match H.wr id (.m (M6 es i y) cl) with|some H=>some (.v undef,H)|none=>none)
   |some none=>(match H.wr id (.m (es++[(k,y,cl)]) (cl+1)) with|some H=>some (.v undef,H)|none=>none)
   |none=>none)
  |_=>none)
 |_,_=>none
def Ei(t:TypeId)(x:CV)(H:Hp):Option (CV×Hp):=match P.underlying t,x with
 |some .string,.v (.string s)=>H.new (.si s 0) (.p · 0)
 |some (.map _ _),.m id=>(match H.get id with
  |.m _ cl=>H.new (.mi (some id) cl [] cl) (.p · 0)
  |_=>none)
 |_,_=>none
def Ej(it:CV)(H:Hp):Option CV:=match it with
 |.p id 0=>(match H.get id with
  |.mi (some m) _ seen st=>(match H.get m,seen.getLast? with
   |.m es cl,some b=>bif Nat.beq cl st then (match es.find? (fun e=>Nat.beq e.2.2 b) with|some e=>some (.t [e.1,e.2.1])|none=>none) else none
   |_,_=>none)
  |_=>none)
 |_=>none
def Tm(t:TypeId):Bool:=match P.underlying t with|some .string=>true|_=>false
def tX(s d:TypeId)(x:CV)(H:Hp):Option (CV×Hp):=match Cb x with
 |some y=>(match qM P (Go.convert s d y) with
  |some r=>some (xC r,H)
  |none=>(match y,iN P d with
   |.string z,some e=>(match P.underlying e with
    |some (.int .u8)=>bif Tm P s&&Nat.ble z.size 4294967296 then H.new (.k (z.data.toList.map fun b=>.i .u8 b.toNat)) (.so · 0 z.size 1) else none
    |_=>none)
   |_,_=>none))
 |none=>none
def iZ(o:Op)(ty:TypeId)(E:Env)(H:Hp)(w:Option Nat):Option (CV×Hp):=
 match o with
 |.alloc e=>(match wR P e with|some z=>put H w (.c z) (.p · 0)|none=>none)
 |.box _ x=>(match Bo (eO E x) with|some l=>put H w (.c l) (.p · 0)|none=>none)
 |.build t ps=>val H (Aa P t ps E)
 |.buildSlice t len ps=>nh P t len ps E H w
 |.store t x y=>Ac P t (eO E x) (eO E y) H
 |.nilCheck x=>(match eO E x with|.p id o=>some (.p id o,H)|_=>none)
 |.makeFunc fn fst cs=>bif fst.isEmpty then some (.f fn (cs.toList.map (eO E)),H) else none
 |.makeMap _ none=>put H w (.m [] 0) .m
 |.makeSlice t l c=>p_ P t (eO E l) (eO E c) H w
 |.slice t x lo hi none=>lA P H t (eO E x) (lo.map (eO E)) (hi.map (eO E))
 |.indexAddr t x i=>val H (Br P t (eO E x) (eO E i))
 |.index t x i=>val H (Eh P t (eO E x) (eO E i))
 |.lookup t x k ok=>val H (ni P t (eO E x) (eO E k) ok H)
 |.mapUpdate t x k y=>qa P t (eO E x) (eO E k) (eO E y) H
 |.insert t x k y=>qa P t (eO E x) (eO E k) (eO E y) H
 |.range t x=>Ei P t (eO E x) H
 |.entry it=>val H (Ej (eO E it) H)
 |.convert s d x=>tX P s d (eO E x) H
 |.unOp op _ x=>(match Cb (eO E x) with
  |some x=>(match qM P (Op.unary op x) with|some v=>some (xC v,H)|none=>none)
  |none=>none)
 |.call c=>(match c.callee with
  |.builtin b=>UL P H b c.argTypes ty (c.args.toList.map (eO E))
  |_=>none)
 |_=>none
inductive I where
 |mv (x:X)
 |bin (g:Option (IntKind→Int→Int→CV)) (s:CV→CV→Option CV) (x y:X)
 |ld (n:Nat) (x:X)
 |ix (s:Nat) (x i:X)
 |fa (o:Nat) (x:X)
 |pk (c a b:X)
 |ln (x:X) (o:Op) (ty:TypeId)
 |ex (x:X) (i:Nat)
 |cl (f:X) (xs:List X)
 |nx (x:X) (s:Bool)
 |o (o:Op) (ty:TypeId)
 |bad
def comp(o:Op)(ty:TypeId):I:=match o with
 |.move x|.assign x=>.mv (dK x)
 |.binOp op t x y _=>.bin (V5 op) (M7 P op t x y) (dK x) (dK y)
 |.load t x=>(match P.underlying t,kU P t with
  |some d,some n=>.ld (bif nE d then 0 else Nat.succ n) (dK x)
  |_,_=>.bad)
 |.indexAddr t x i=>(match P.underlying t with
  |some (.slice e)=>(match kU P e with|some s=>.ix s (dK x) (dK i)|none=>.bad)
  |_=>.o o ty)
 |.fieldAddr t x k=>(match Tl P t k with
  |some f=>(match kU P f.type with|some s=>bif Nat.beq s 0 then .bad else .fa f.offset (dK x)|none=>.bad)
  |none=>.bad)
 |.pick c a b=>.pk (dK c) (dK a) (dK b)
 |.extract x i=>.ex (dK x) i
 |.next x s=>.nx (dK x) s
 |.call c=>(match c.callee,c.args.toList with
  |.value f,xs=>.cl (dK f) (xs.map dK)
  |.builtin .len,[x]=>(match c.argTypes.toList with|[t]=>bif (iN P t).isSome then .ln (dK x) o ty else .o o ty|_=>.o o ty)
  |_,_=>.o o ty)
 |o=>.o o ty
def F1(g:Option (IntKind→Int→Int→CV))(s:CV→CV→Option CV)(x y:CV):Option CV:=match x with
 |.i k a=>(match y with
  |.i k' b=>bif XN k k' then (match g with|some g=>some (g k a b)|none=>s x y) else s x y
  |_=>s x y)
 |_=>s x y
def KN(n:Nat)(x:CV)(H:Hp):Option CV:=match x with
 |.p id o=>(match o_ H id with
  |some l=>Nat.casesOn (motive:=fun _=>Option CV) n (nth l o) (fun n=>match tk n (Qg l o) with|some r=>some (.a r)|none=>none)
  |none=>none)
 |_=>none
def M9(s:Nat)(x:CV)(i:Option Nat):Option CV:=match i with
 |some i=>(match x with
  |.sl id o len _=>bif Nat.blt i len then some (.p id (Nat.add o (Nat.mul i s))) else none
  |.so id k len s'=>bif Nat.blt i len&&Nat.beq s s' then some (.p id (Nat.mul (Nat.add k i) s)) else none
  |_=>none)
 |none=>none
def M_(o:Nat)(x:CV):Option CV:=match x with
 |.p id k=>some (.p id (Nat.add k o))
 |_=>none
def KO(c:CV)(a b:X)(E:Env):Option CV:=match c with
 |.b q=>some (qo E (bif q then a else b))
 |_=>none
def Ql(x:CV)(o:Op)(ty:TypeId)(E:Env)(H:Hp)(w:Option Nat):Option (CV×Hp):=match x with
 |.sl _ _ n _=>some (.i .i64 (.ofNat n),H)
 |.so _ _ n _=>some (.i .i64 (.ofNat n),H)
 |_=>iZ P o ty E H w
def Na(x:CV)(i:Nat):Option CV:=match x with
 |.t l=>nth l i
 |.v (.tuple a)=>(match nth a.toList i with|some v=>some (xC v)|none=>none)
 |_=>none
def exec(i:I)(E:Env)(H:Hp)(w:Option Nat):Option (CV×Hp):=match i with
 |.mv x=>some (qo E x,H)
 |.bin g s x y=>val H (F1 g s (qo E x) (qo E y))
 |.ld n x=>val H (KN n (qo E x) H)
 |.ix s x i=>val H (M9 s (qo E x) (M5 (qo E i)))
 |.fa o x=>val H (M_ o (qo E x))
 |.pk c a b=>val H (KO (qo E c) a b E)
 |.ln x o ty=>Ql P (qo E x) o ty E H w
 |.ex x i=>val H (Na (qo E x) i)
 |.o o ty=>iZ P o ty E H w
 |_=>none
def vc(H:Hp)(it:CV)(isS:Bool):List (CV×Hp):=
 match it,isS with
 |.p id 0,true=>(match H.get id with
  |.si s pos=>bif Nat.blt pos s.size then
    (match H.wr id (.si s (pos+(Utf8.decode s pos).2)) with|some H'=>[(.t [.b true,.i .i64 pos,.i .i32 (Utf8.decode s pos).1],H')]|none=>[])
   else [(.t [.b false],H)]
  |_=>[])
 |.p id 0,false=>(match H.get id with
  |.mi (some m) since seen st=>(match H.get m with
   |.m es cl=>
    bif es.all (fun e=>Nat.blt e.2.2 since)&&Nat.ble since st then
    (match es.filter (fun e=>!seen.contains e.2.2) with
    |[]=>(match H.wr id .free with|some H=>[(.t [.b false],H)]|none=>[])
    |l=>l.filterMap fun e=>match H.wr id (.mi (some m) since (seen++[e.2.2]) cl) with|some H=>some (.t [.b true,e.1,e.2.1],H)|none=>none)
    else []
   |_=>[])
  |_=>[])
 |_,_=>[]
inductive Out where
 |n (E:Env) (H:Hp)
 |x (id:Nat) (E:Env) (H:Hp)
 |r (E:Env) (H:Hp)
 |bad
 |or (a b:Out)
def Out.uo(K:Env→Hp→Out)(o:Out):Out:=
 Out.rec (motive:=fun _=>Out) K (fun id E H=>.x id E H) (fun E H=>.r E H) .bad (fun _ _ a b=>.or a b) o
def Out.aD(id:Nat):Out→Out
 |.n E H=>.n E H
 |.x i E H=>bif Nat.beq i id then .n E H else .x i E H
 |.r E H=>.r E H
 |.bad=>.bad
 |.or a b=>.or (a.aD id) (b.aD id)
def V6(K:CV→Hp→Out):List (CV×Hp)→Out
 |[]=>.bad
 |[x]=>K x.1 x.2
 |x::y::r=>.or (K x.1 x.2) (V6 K (y::r))
def args:List CV→Nat→Env→Env
 |[],_,E=>E
 |x::r,i,E=>args r (Nat.succ i) ((bg CV 3 i).s x E)
structure J where
 g:Option (G Env CV×Bool)
 i:I
 d:Option (S Env CV)
def uK(n:Nat):Option Tmp→Bool
 |some d=>Nat.blt d n&&Nat.ble n 512
 |none=>true
def ic(n:Nat)(ops:Array Oper)(o:Oper):J:=
 bif uK n o.dst then
  match o.guard with
  |none=>⟨none,comp P o.op o.type,o.dst.map (bg CV 3)⟩
  |some (j,w)=>(match (ops[j]?).bind (·.dst) with
   |some t=>bif Nat.blt t 512 then ⟨some (iM CV 3 t,w),comp P o.op o.type,o.dst.map (bg CV 3)⟩ else ⟨none,.bad,none⟩
   |none=>⟨none,.bad,none⟩)
 else ⟨none,.bad,none⟩
def want(E:Env)(g:Option (G Env CV×Bool)):Bool:=match g with
 |none=>true
 |some (p,w)=>(match p.g E with|.b q=>bif w then q else not q|_=>false)
def yes(E:Env)(g:Option (G Env CV×Bool)):Bool:=match g with
 |none=>true
 |some (p,_)=>(match p.g E with|.b _=>true|.v (.tuple _)=>true|_=>false)
def rA(E:Env)(d:Option (S Env CV))(v:CV):Env:=match d with|some d=>d.s v E|none=>E
def KP(H:Hp)(E:Env):List ResultVar→Option (List CV)
 |[]=>some []
 |.tmp t::r=>(match KP H E r with|some l=>some (eO E (.tmp t)::l)|none=>none)
 |.cell a t::r=>(match eO E (.tmp a),KP H E r with
  |.p id o,some l=>(match row H id with|some c=>(match C_ P t c o with|some v=>some (v::l)|none=>none)|none=>none)
  |_,_=>none)
def F2(H:Hp)(fn:Func)(E:Env):Option CV:=match KP P H E fn.results.toList with
 |some [x]=>some x
 |some l=>some (.t l)
 |none=>none
end
end
end Go.Proofs.YtjdnbobilgamdaaGreatDoor.Ev
end
section
namespace Go.Proofs.YtjdnbobilgamdaaGreatDoor.Ev
open Go
noncomputable section
def Ai:List UInt8→List UInt8→Bool
 |[],[]=>true
 |a::l,b::m=>Nat.beq a.toNat b.toNat&&Ai l m
 |_,_=>false
mutual
def same:CV→CV→Bool
 |.i j a,.i k b=>XN j k&&RL a b
 |.b a,.b b=>bif a then b else not b
 |.v (.string a),.v (.string b)=>Ai a.data.toList b.data.toList
 |.v (.slice none 0 0),.v (.slice none 0 0)=>true
 |.sl a b c d,.sl e f g h|.so a b c d,.so e f g h=>Nat.beq a e&&Nat.beq b f&&Nat.beq c g&&Nat.beq d h
 |.p a b,.p c d=>Nat.beq a c&&Nat.beq b d
 |.m a,.m b=>Nat.beq a b
 |.a l,.a m|.t l,.t m=>sR l m
 |.any,.any=>true
 |_,_=>false
def sR:List CV→List CV→Bool
 |[],[]=>true
 |a::l,b::m=>same a b&&sR l m
 |_,_=>false
end
mutual
def x9(n:Nat):CV→Bool
 |.i _ _|.b _|.v _|.cp _|.any=>true
 |.sl i _ _ _|.so i _ _ _|.p i _|.m i=>Nat.blt i n
 |.a l|.t l=>pa n l
 |.f _ l=>pa n l
def pa(n:Nat):List CV→Bool
 |[]=>true
 |x::l=>x9 n x&&pa n l
end
structure Cx where
 P:Program
 oc:List Nat
 qf:List Nat
 ov:List Nat
 ks:List Nat
 kt:List (Nat×List CV×List (List CV)×CV)
inductive Kind where
 |n
 |r (id:Nat)
 |w (id:Nat)
 |x
 |b
def Kind.rd:Kind→Bool
 |.n|.r _=>true
 |_=>false
def eY(E:Env)(o:Op):Kind:=match o with
 |.unOp ..|.build ..|.indexAddr ..|.nilCheck _|.makeFunc ..|.index ..=>.n
 |.slice _ x _ _ _=>(match eO E x with|.so id _ _ _=>.r id|_=>.n)
 |.lookup _ x _ _=>(match eO E x with|.m id=>.r id|_=>.b)
 |.store _ x _=>(match eO E x with|.p id _=>.w id|_=>.b)
 |.alloc _|.box ..|.buildSlice ..|.makeSlice ..|.makeMap ..=>.x
 |.convert _ _ x=>(match eO E x with|.i _ _=>.n|_=>.b)
 |.call c=>(match c.callee with
  |.builtin .len=>(match c.args.toList with|[x]=>(match eO E x with|.m id=>.r id|_=>.n)|_=>.b)
  |.builtin .min|.builtin .max=>.n
  |_=>.b)
 |_=>.b
def dX(E:Env)(i:I)(pair:Bool):Kind:=match i with
 |.mv _|.bin ..|.ix ..|.fa ..|.pk ..|.ex ..=>.n
 |.ld _ x=>(match qo E x with|.p id _=>.r id|_=>.b)
 |.ln x o _=>(match qo E x with|.sl _ _ _ _|.so _ _ _ _=>.n|_=>eY E o)
 |.cl _ _=>bif pair then .x else .b
 |.o o _=>eY E o
 |_=>.b
def bit(i:Nat):Nat:=Nat.pow 2 i
def hasB(m i:Nat):Bool:=Nat.beq (Nat.mod (Nat.div m (bit i)) 2) 1
def Gg(acc:Nat→Nat):List Edge→Nat→Nat
 |[],m=>m
 |e::r,m=>bif Region.binds .any e then Gg acc r (Nat.lor (Nat.lor m (bit e.on)) (acc e.on)) else Gg acc r m
def Ct:List Oper→List Nat→List Nat
 |[],acc=>acc
 |o::r,acc=>Ct r (acc++[Gg (fun i=>(nth acc i).getD 0) o.after.toList 0])
def sS(l:List Nat)(i:Nat):Bool:=l.any (Nat.beq · i)
def ya(m j:Nat):Nat→List (Nat×Nat)
 |0=>[]
 |i+1=>bif hasB m i then ya m j i else (i,j)::ya m j i
def BE:List Nat→Nat→List (Nat×Nat)
 |[],_=>[]
 |m::r,j=>ya m j j++BE r (Nat.succ j)
def sV(ops:Array Oper):List (Nat×Nat):=BE (Ct ops.toList []) 0
def rX(o:Op):Bool:=match o with
 |.move _|.assign _|.pick ..|.binOp ..|.unOp ..|.extract ..|.build ..|.fieldAddr ..|.indexAddr ..|.nilCheck _|.makeFunc ..|.index ..=>false
 |.call c=>(match c.callee with|.builtin .min|.builtin .max=>false|_=>true)
 |_=>true
def nj(o:Op):Bool:=match o with
 |.alloc _|.box ..|.buildSlice ..|.makeSlice ..|.makeMap ..=>true
 |_=>false
def Jt(o:Op):Bool:=match o with
 |.alloc _|.box ..|.buildSlice ..|.makeSlice ..|.makeMap ..=>true
 |.call c=>(match c.callee with|.value _=>true|_=>false)
 |_=>false
def ur(ops:Array Oper)(i:Nat)(f:Op→Bool):Bool:=match nth ops.toList i with|some o=>f o.op|none=>false
def pE(ops:Array Oper):List (Nat×Nat):=(sV ops).filter fun p=>ur ops p.1 rX&&ur ops p.2 rX
def mI(ops:Array Oper):Option Nat:=
 match (pE ops).filter fun p=>(ur ops p.1 nj&&ur ops p.2 Jt)||(ur ops p.2 nj&&ur ops p.1 Jt) with
 |[]=>none
 |(i,j)::_=>bif ur ops i nj then some i else some j
def Wl(l:List (Nat×Nat))(i:Nat):Bool:=l.any fun p=>Nat.beq p.1 i||Nat.beq p.2 i
def Er(ops:Array Oper)(rv:Option Nat)(i:Nat):Bool:=match rv with
 |none=>false
 |some r=>(sV ops).any fun p=>(Nat.beq p.1 i&&Nat.beq p.2 r)||(Nat.beq p.1 r&&Nat.beq p.2 i)
def py(ops:Array Oper)(o:Oper):List Nat:=
 (o.op.operands.toList.filterMap fun|.tmp t=>some t|_=>none)++(match o.guard with|some (j,_)=>((ops[j]?).bind (·.dst)).toList|none=>[])
def apart(ops:Array Oper)(p:Nat×Nat):Bool:=match nth ops.toList p.1,nth ops.toList p.2 with
 |some a,some b=>(match a.dst with|some d=>!sS (py ops b) d&&!sS b.dst.toList d|none=>true)&&(match b.dst with|some d=>!sS (py ops a) d|none=>true)
 |_,_=>false
def Ak:List Oper→Nat→Bool
 |[],_=>true
 |o::r,i=>o.after.toList.all (fun e=>!Region.binds .any e||Nat.blt e.on i)&&Ak r (i+1)
def Tw(ops:Array Oper):Bool:=Ak ops.toList 0&&(sV ops).all (apart ops)
def Dc(o:Op):Bool:=match o with
 |.move _|.assign _|.pick ..|.binOp ..|.unOp ..|.extract ..|.build ..|.fieldAddr ..|.indexAddr ..|.nilCheck _|.makeFunc ..|.index ..|.load ..|.lookup ..|.slice ..=>true
 |.call c=>(match c.callee,c.args.toList with|.builtin .min,_|.builtin .max,_|.builtin .len,[_]=>true|_,_=>false)
 |_=>false
def calm(ops:Array Oper):Bool:=ops.toList.all fun o=>Dc o.op
def vh(n0:Nat)(u v:Kind):Bool:=match u with
 |.n=>true
 |.r i=>(match v with|.n|.r _=>true|.w j=>!Nat.beq i j&&Nat.blt i 4096&&Nat.blt j 4096|.x=>Nat.blt i n0|.b=>false)
 |.w i=>(match v with|.n=>true|.r j=>!Nat.beq i j&&Nat.blt i 4096&&Nat.blt j 4096|_=>false)
 |.x=>(match v with|.n=>true|.r j=>Nat.blt j n0|_=>false)
 |.b=>(match v with|.n=>true|_=>false)
structure JD where
 j:J
 pair:Bool
 hid:Bool
 rv:Bool
section
variable (C:Cx)
def Gi(n:Nat)(ops:Array Oper):List JD:=
 let rv:=mI ops
 let lp:=pE ops
 (List.range ops.size).map fun i=>match nth ops.toList i with
  |some o=>⟨ic C.P n ops o,Wl lp i,Er ops rv i,(match rv with|some r=>Nat.beq r i|none=>false)⟩
  |none=>⟨⟨none,.bad,none⟩,false,false,false⟩
def fin(fn:Func):Out→Option (CV×Hp)
 |.n E H|.r E H=>(match F2 C.P H fn E with|some v=>some (v,H)|none=>none)
 |_=>none
def canon(n:Nat)(x:CV)(H:Hp):Option (CV×List CV):=match x with
 |.so i 0 k s=>bif Nat.ble n i then (match row H i with|some l=>bif pa n l then some (.so n 0 k s,l) else none|none=>none) else none
 |_=>none
def H_(n:Nat)(fn:Func):Out→Option (CV×List CV)
 |.n E H|.r E H=>(match F2 C.P H fn E with|some v=>canon n v H|none=>none)
 |.or a b=>(match H_ n fn a,H_ n fn b with
  |some (v,l),some (v',l')=>bif same v v'&&sR l l' then some (v,l) else none
  |_,_=>none)
 |_=>none
def BC:Env:=Bn CV (.v undef) 3
def G8(f:Nat):Option Func:=C.P.funcs[f]?
def Ny(rn:Nat→Code→Env→Hp→Out)(f:Nat)(xs:List CV)(H:Hp):Option (CV×Hp):=
 match G8 C f with
 |some fn=>(match fn.body with
  |some c=>bif Nat.ble xs.length fn.ntmps&&Nat.ble fn.ntmps 512 then (match H_ C H.n fn (rn fn.ntmps c (args xs 0 BC) ⟨H.h,H.n,H.n⟩) with
   |some (v,l)=>H.new (.c l) fun _=>v
   |none=>none) else none
  |none=>none)
 |none=>none
def Nv(f:Nat)(xs:List CV)(H:Hp):Option (CV×Hp):=match xs with
 |[.sl i _ m _,.so j _ n _]=>bif sS C.ov f&&!Nat.beq i j&&Nat.blt 0 m&&Nat.blt 0 n&&Nat.ble H.fl j then
   (match row H i,row H j with|some _,some _=>some (.b false,H)|_,_=>none) else none
 |_=>none
def w_(rn:Nat→Code→Env→Hp→Out)(f:Nat)(xs:List CV)(H:Hp):Option (CV×Hp):=
 match G8 C f with
 |some fn=>(match fn.body with
  |some c=>bif Nat.ble xs.length fn.ntmps&&Nat.ble fn.ntmps 512 then fin C fn (rn fn.ntmps c (args xs 0 BC) H) else none
  |none=>Nv C f xs H)
 |none=>none
def NA(rn:Nat→Code→Env→Hp→Out)(f:Nat)(id len s:Nat)(xs:List CV)(H:Hp):Option (CV×Hp):=
 match row H id,H.wr id .free with
 |some l,some H0=>bif Nat.beq l.length (len*s)&&Nat.blt 0 len&&Nat.blt 0 s&&Nat.blt H.n 4096 then
  (match w_ C rn f (.sl H.n 0 len len::xs) ⟨(bg AO 4 H.n).s (.c l) H0.h,H.n+1,H.n⟩,w_ C rn f (.so H.n 0 len s::xs) ⟨(bg AO 4 H.n).s (.c (l++rep s [.any])) H0.h,H.n+1,H.n⟩ with
  |some (x,HA),some (y,HB)=>(match canon H.n x HA,canon H.n y HB with
   |some (v,a),some (v',b)=>bif same v v'&&sR a b then some (v,⟨(bg AO 4 H.n).s (.c a) H0.h,H.n+1,H.fl⟩) else none
   |_,_=>none)
  |_,_=>none) else none
 |_,_=>none
def UN(f:CV→Hp→Option (CV×Hp)):List CV→Hp→Option (List CV×Hp)
 |[],K=>some ([],K)
 |x::r,K=>match f x K with
  |some (x,K)=>(match UN f r K with|some (r,K)=>some (x::r,K)|none=>none)
  |none=>none
def Wm(f:CV→Hp→Option (CV×Hp))(H:Hp)(id:Nat)(K:Hp)(g:Nat→CV):Option (CV×Hp):=match o_ H id with
 |some l=>(match UN f l K with|some (l,K)=>K.new (.k l) g|none=>none)
 |none=>none
def dc(H:Hp):Nat→CV→Hp→Option (CV×Hp)
 |0,_,_=>none
 |n+1,x,K=>match x with
  |.i k n=>some (.i k n,K)
  |.b q=>some (.b q,K)
  |.v x=>some (.v x,K)
  |.a l=>(match UN (dc H n) l K with|some (l,K)=>some (.a l,K)|none=>none)
  |.sl id o l c=>Wm (dc H n) H id K fun i=>.sl i o l c
  |.so id k l s=>Wm (dc H n) H id K fun i=>.so i k l s
  |.p id o=>Wm (dc H n) H id K fun i=>.p i o
  |_=>none
def pQ:Hp:=⟨Bn AO .free 4,0,0⟩
def rD(K:Hp):List (List CV)→Nat→Bool
 |[],i=>Nat.beq i K.n
 |l::r,i=>(match o_ K i with|some m=>sR m l|none=>false)&&rD K r (Nat.succ i)
def known(f:Nat)(xs:List CV)(K:Hp):List (Nat×List CV×List (List CV)×CV)→Option CV
 |[]=>none
 |(g,ys,rs,v)::r=>bif Nat.beq f g&&sR xs ys&&rD K rs 0 then some v else known f xs K r
def scalar(x:CV):Bool:=match Cb x with|some _=>true|none=>false
def NB(rn:Nat→Code→Env→Hp→Out)(f:Nat)(xs:List CV)(H:Hp):Option (CV×Hp):=match UN (dc H 6) xs pQ with
 |some (ys,K)=>(match known f ys K C.kt with
  |some v=>some (v,H)
  |none=>(match w_ C rn f ys ⟨K.h,K.n,K.n⟩ with
   |some (v,_)=>bif scalar v then some (v,H) else none
   |none=>none))
 |none=>none
def NC(rn:Nat→Code→Env→Hp→Out)(f:Nat)(xs:List CV)(H:Hp):Option (CV×Hp):=
 bif sS C.ks f then NB C rn f xs H else
 bif sS C.qf f then Ny C rn f xs H else
 bif sS C.oc f then (match xs with|.so id 0 len s::r=>NA C rn f id len s r H|xs=>w_ C rn f xs H) else w_ C rn f xs H
abbrev Rn:=Nat→List CV→Hp→Option (CV×Hp)
def uL(rn:Rn)(E:Env)(f:X)(xs:List X)(H:Hp):Option (CV×Hp):=match qo E f with
 |.f fn lK=>(match fn with|.func g=>rn g (xs.map (qo E)++lK) H|_=>none)
 |_=>none
def rE(rn:Rn)(rid:Nat)(j:JD)(k:Kind)(E:Env)(H:Hp):Option (CV×Hp):=match j.j.i with
 |.cl f xs=>(match k with
  |.x=>(match uL rn E f xs ⟨H.h,H.n,H.n⟩ with|some (v,H')=>some (v,Hp.mk H'.h H'.n H.fl)|none=>none)
  |_=>uL rn E f xs H)
 |i=>exec C.P i E H (bif j.rv then some rid else none)
def rF(rn:Rn)(rid:Nat)(j:JD)(k:Kind)(E:Env)(H:Hp):Option (CV×Hp):=bif j.hid then
  match rE C rn rid j k E ⟨(bg AO 4 rid).s .free H.h,H.n,H.fl⟩ with
  |some (v,H')=>some (v,⟨(bg AO 4 rid).s (H.get rid) H'.h,H'.n,H'.fl⟩)
  |none=>none
 else rE C rn rid j k E H
def gA(rn:Rn)(rid:Nat)(j:JD)(E:Env)(H:Hp):Option (Kind×CV×Hp):=
 bif want E j.j.g then (match rF C rn rid j (dX E j.j.i j.pair) E H with
  |some (v,H')=>some (dX E j.j.i j.pair,v,H')
  |none=>none)
 else bif yes E j.j.g then some (.n,.v undef,H) else none
def UO(rn:Rn)(rid:Nat)(j:JD)(E:Env)(H:Hp):Option (Kind×Env×Hp):=match gA C rn rid j E H with
 |some (k,v,H')=>some (k,rA E j.j.d v,H')
 |none=>none
def Es(rn:Rn)(rid:Nat):List JD→Env→Hp→Option (List Kind×Env×Hp)
 |[],E,H=>some ([],E,H)
 |j::r,E,H=>match UO C rn rid j E H with
  |some (k,E,H)=>(match Es rn rid r E H with|some (ks,E,H)=>some (k::ks,E,H)|none=>none)
  |none=>none
def IL(rv:Option Nat)(n0:Nat)(ks:List Kind)(p:Nat×Nat):Bool:=match rv with
 |some r=>Nat.beq p.1 r||Nat.beq p.2 r||(match nth ks p.1,nth ks p.2 with|some u,some v=>u.rd&&v.rd|_,_=>false)
 |none=>(match nth ks p.1,nth ks p.2 with|some u,some v=>vh n0 u v|_,_=>false)
def drawn(n:Nat)(rn:Rn)(ops:Array Oper)(E:Env)(H:Hp):Out:=
 match (match mI ops with|some _=>H.new .res fun _=>.any|none=>some (.any,H)) with
 |some (_,H1)=>(match Es C rn H.n (Gi C n ops) E H1 with
  |some (ks,E',H')=>bif (pE ops).all (IL (mI ops) H.n ks) then .n E' H' else .bad
  |none=>.bad)
 |none=>.bad
def Da(r:Option (CV×Hp))(d:Option (S Env CV))(E:Env)(K:Env→Hp→Out):Out:=match r with
 |some (v,H)=>K (rA E d v) H
 |none=>.bad
def UM(rn:Rn)(j:J)(E:Env)(H:Hp)(K:Env→Hp→Out):Out:=match j.i with
 |.nx x s=>V6 (fun v H=>K (rA E j.d v) H) (vc H (qo E x) s)
 |.cl f xs=>Da (uL rn E f xs H) j.d E K
 |i=>Da (exec C.P i E H none) j.d E K
def w8(rn:Rn)(j:J)(E:Env)(H:Hp)(K:Env→Hp→Out):Out:=
 bif want E j.g then UM C rn j E H K else bif yes E j.g then K (rA E j.d (.v undef)) H else .bad
structure KJ where
 f:Env→Hp→(Env→Hp→Out)→Out
def mvC(x:X)(d:S Env CV)(E:Env)(H:Hp)(K:Env→Hp→Out):Out:=K (d.s (qo E x) E) H
def UP(f:Env→Hp→Option CV)(d:S Env CV)(E:Env)(H:Hp)(K:Env→Hp→Out):Out:=
 Option.rec (motive:=fun _=>Out) .bad (fun v=>K (d.s v E) H) (f E H)
def bnC(g:IntKind→Int→Int→CV)(s:CV→CV→Option CV)(x y:X)(E:Env)(_:Hp):Option CV:=F1 (some g) s (qo E x) (qo E y)
def ldC(n:Nat)(x:X)(E:Env)(H:Hp):Option CV:=KN n (qo E x) H
def ixC(s:Nat)(x i:X)(E:Env)(_:Hp):Option CV:=M9 s (qo E x) (M5 (qo E i))
def faC(o:Nat)(x:X)(E:Env)(_:Hp):Option CV:=M_ o (qo E x)
def pkC(c a b:X)(E:Env)(_:Hp):Option CV:=KO (qo E c) a b E
def exC(x:X)(i:Nat)(E:Env)(_:Hp):Option CV:=Na (qo E x) i
def BA(rn:Rn)(j:J):KJ:=match j.g,j.d,j.i with
 |none,some d,.mv x=>⟨mvC x d⟩
 |none,some d,.bin (some g) s x y=>⟨UP (bnC g s x y) d⟩
 |none,some d,.ld n x=>⟨UP (ldC n x) d⟩
 |none,some d,.ix s x i=>⟨UP (ixC s x i) d⟩
 |none,some d,.fa o x=>⟨UP (faC o x) d⟩
 |none,some d,.pk c a b=>⟨UP (pkC c a b) d⟩
 |none,some d,.ex x i=>⟨UP (exC x i) d⟩
 |_,_,_=>⟨w8 C rn j⟩
def Cr(js:List KJ):Env→Hp→Out:=
 List.rec (motive:=fun _=>Env→Hp→Out) (fun E H=>.n E H) (fun j _ ih E H=>j.f E H ih) js
def Tz(n:Nat)(K:Env→Hp→Out):Env→Hp→Out:=
 Nat.rec (motive:=fun _=>Env→Hp→Out) (fun _ _=>.bad) (fun _ ih E H=>Out.uo ih (K E H)) n
def Tx(c:CV)(a b:Env→Hp→Out)(E:Env)(H:Hp):Out:=match c with
 |.b q=>(bif q then a else b) E H
 |_=>.bad
structure KC where
 f:Env→Hp→Out
def sqC(a b:KC)(E:Env)(H:Hp):Out:=Out.uo b.f (a.f E H)
def cdC(c:X)(a b:KC)(E:Env)(H:Hp):Out:=Tx (qo E c) a.f b.f E H
def bkC(id:Nat)(b:KC)(E:Env)(H:Hp):Out:=Out.aD id (b.f E H)
def lpC(b:KC)(E:Env)(H:Hp):Out:=Tz 5000 b.f E H
def RO(js:List KJ)(E:Env)(H:Hp):Out:=Cr js E H
def bdC(_:Env)(_:Hp):Out:=.bad
def BB(n:Nat)(rn:Rn)(ops:Array Oper):List KJ:=ops.toList.map fun o=>BA C rn (ic C.P n ops o)
def lZ(n:Nat)(rn:Rn)(c:Code):KC:=match c with
 |.skip|.label _=>⟨.n⟩
 |.region _ ops draw=>bif draw then (bif Tw ops then (bif calm ops then ⟨RO (BB C n rn ops)⟩ else ⟨drawn C n rn ops⟩) else ⟨bdC⟩) else ⟨RO (BB C n rn ops)⟩
 |.seq a b=>⟨sqC (lZ n rn a) (lZ n rn b)⟩
 |.cond c a b=>⟨cdC (dK c) (lZ n rn a) (lZ n rn b)⟩
 |.block id b=>⟨bkC id (lZ n rn b)⟩
 |.loop b=>⟨lpC (lZ n rn b)⟩
 |.exit id=>⟨.x id⟩
 |.ret=>⟨.r⟩
 |_=>⟨bdC⟩
def run(rn:Rn)(n:Nat)(c:Code)(E:Env)(H:Hp):Out:=(lZ C n rn c).f E H
def call(n:Nat):Rn:=
 Nat.rec (motive:=fun _=>Rn) (fun _ _ _=>none) (fun _ ih f xs H=>NC C (run C ih) f xs H) n
end
end
end Go.Proofs.YtjdnbobilgamdaaGreatDoor.Ev
end
section
namespace Go.Proofs.YtjdnbobilgamdaaGreatDoor.Ev
open Go
theorem OX(i:Nat):i%8=0∨i%8=1∨i%8=2∨i%8=3∨i%8=4∨i%8=5∨i%8=6∨i%8=7:=by omega
section
variable {α:Type}
theorem ua(k i:Nat):iM α (k+1) i=pick (i%8) ⟨g0 (iM α k (i/8))⟩ ⟨g1 (iM α k (i/8))⟩ ⟨g2 (iM α k (i/8))⟩ ⟨g3 (iM α k (i/8))⟩ ⟨g4 (iM α k (i/8))⟩ ⟨g5 (iM α k (i/8))⟩ ⟨g6 (iM α k (i/8))⟩ ⟨g7 (iM α k (i/8))⟩:=rfl
theorem pq(k i:Nat):bg α (k+1) i=pick (i%8) ⟨s0 (bg α k (i/8))⟩ ⟨s1 (bg α k (i/8))⟩ ⟨s2 (bg α k (i/8))⟩ ⟨s3 (bg α k (i/8))⟩ ⟨s4 (bg α k (i/8))⟩ ⟨s5 (bg α k (i/8))⟩ ⟨s6 (bg α k (i/8))⟩ ⟨s7 (bg α k (i/8))⟩:=rfl
theorem wZ:∀ (k i:Nat) (x:α) (E:Tr α k),(iM α k i).g ((bg α k i).s x E)=x
 |0,_,_,_=>rfl
 |k+1,i,x,E=>by
  rw[ua,pq]
  rcases OX i with h|h|h|h|h|h|h|h<;>rw[h]<;>exact wZ k (i/8) x _
theorem Bz:∀ (k i j:Nat) (x:α) (E:Tr α k),i%8^k≠j%8^k→(iM α k i).g ((bg α k j).s x E)=(iM α k i).g E
 |0,i,j,_,_,h=>absurd (by simp[Nat.mod_one]) h
 |k+1,i,j,x,E,h=>by
  rw[ua,pq]
  by_cases hd:i%8=j%8
  ·have h':i/8%8^k≠j/8%8^k:=fun hc=>h (by rw[ace,ac',Nat.mod_mul,Nat.mod_mul,hd,hc])
   rw[hd]
   rcases OX j with h|h|h|h|h|h|h|h<;>rw[h]<;>exact Bz k (i/8) (j/8) x _ h'
  ·rcases OX i with h|h|h|h|h|h|h|h<;>rcases OX j with h2|h2|h2|h2|h2|h2|h2|h2<;>rw[h,h2] at hd ⊢<;>first|exact absurd rfl hd|rfl
theorem set_set:∀ (k i:Nat) (x y:α) (E:Tr α k),(bg α k i).s x ((bg α k i).s y E)=(bg α k i).s x E
 |0,_,_,_,_=>rfl
 |k+1,i,x,y,E=>by
  rw[pq]
  rcases OX i with h|h|h|h|h|h|h|h<;>rw[h]<;>(simp only[pick,s0,s1,s2,s3,s4,s5,s6,s7,Nat.beq,abf,abJ,set_set k (i/8) x y];rfl)
theorem set_comm:∀ (k i j:Nat) (x y:α) (E:Tr α k),i%8^k≠j%8^k→(bg α k i).s x ((bg α k j).s y E)=(bg α k j).s y ((bg α k i).s x E)
 |0,i,j,_,_,_,h=>absurd (by simp[Nat.mod_one]) h
 |k+1,i,j,x,y,E,h=>by
  rw[pq,pq]
  by_cases hd:i%8=j%8
  ·have h':i/8%8^k≠j/8%8^k:=fun hc=>h (by rw[ace,ac',Nat.mod_mul,Nat.mod_mul,hd,hc])
   rw[hd]
   rcases OX j with h|h|h|h|h|h|h|h<;>rw[h]<;>(simp only[pick,s0,s1,s2,s3,s4,s5,s6,s7,Nat.beq,abf,abJ,set_comm k (i/8) (j/8) x y _ h'];rfl)
  ·rcases OX i with h|h|h|h|h|h|h|h<;>rcases OX j with h2|h2|h2|h2|h2|h2|h2|h2<;>rw[h,h2] at hd ⊢<;>first|exact absurd rfl hd|rfl
theorem Js:∀ (k i:Nat) (x:α),(iM α k i).g (Bn α x k)=x
 |0,_,_=>rfl
 |k+1,i,x=>by
  rw[ua]
  rcases OX i with h|h|h|h|h|h|h|h<;>rw[h]<;>exact Js k (i/8) x
end
theorem Bw{β:Type}(f:Nat→β)(n:Nat):Tk f n=f n:=by cases n<;>rfl
theorem Hp.get_eq(H:Hp)(id:Nat):H.get id=(iM AO 4 id).g H.h:=Bw _ _
theorem Hp.sQ{H H':Hp}{id:Nat}{x:AO}(h:H.wr id x=some H'):H.fl≤id∧H'=⟨(bg AO 4 id).s x H.h,H.n,H.fl⟩:=by
 simp only[Hp.wr,Bw] at h
 cases hb:Nat.ble H.fl id with
 |false=>rw[hb] at h;cases h
 |true=>rw[hb] at h;exact⟨aaR hb,(aa5 h).symm⟩
theorem Hp.qp{H H':Hp}{x:AO}{K:Nat→CV}{v:CV}(h:H.new x K=some (v,H')):H.n<4096∧v=K H.n∧H'=⟨(bg AO 4 H.n).s x H.h,H.n+1,H.fl⟩:=by
 simp only[Hp.new,Bw] at h
 cases hb:Nat.blt H.n 4096 with
 |false=>rw[hb] at h;cases h
 |true=>
  rw[hb] at h
  have:=aa5 h
  exact⟨by simpa[abK] using hb,(Prod.mk.inj this).1.symm,(Prod.mk.inj this).2.symm⟩
theorem Hp.get_set_same(h:Tr AO 4)(n f id:Nat)(x:AO):(⟨(bg AO 4 id).s x h,n,f⟩:Hp).get id=x:=by rw[Hp.get_eq];exact wZ _ _ _ _
theorem Hp.dF(h:Tr AO 4)(n f n' f':Nat){id j:Nat}(x:AO)(hi:id<4096)(hj:j<4096)(aR:id≠j):(⟨(bg AO 4 j).s x h,n,f⟩:Hp).get id=(⟨h,n',f'⟩:Hp).get id:=by
 rw[Hp.get_eq,Hp.get_eq]
 exact Bz _ _ _ _ _ (by rw[abX (by simpa using hi),abX (by simpa using hj)];exact aR)
abbrev Sg:=Nat→Option (Nat×Nat×Nat)
mutual
def RV(σ:Sg):CV→Value→Prop
 |.i k n,x=>x=.int k n
 |.b q,x=>x=.bool q
 |.v y,x=>x=y
 |.sl id o len cap,x=>∃ b p c,σ id=some (b,p,c)∧x=.slice (some ⟨b,p+o,none⟩) len cap
 |.so id k len s,x=>∃ b p c cap q,σ id=some (b,p,c)∧x=.slice (some ⟨b,q,none⟩) len cap∧(k+cap)*s=c∧len≤cap∧0<s∧cap≤9223372036854775807∧(0<cap→q=p+k*s)
 |.p id o,x=>∃ b p c,σ id=some (b,p,c)∧x=.pointer (some ⟨b,p+o,none⟩)
 |.m id,x=>∃ b p c,σ id=some (b,p,c)∧x=.map (some b)
 |.f fn lK,x=>∃ l,x=.func fn #[] ⟨l⟩∧ig σ lK l
 |.a l,x=>∃ m,x=.agg ⟨m⟩∧ig σ l m
 |.t l,x=>∃ m,x=.tuple ⟨m⟩∧ig σ l m
 |.cp lo,x=>∃ n:Nat,x=.int .i64 n∧lo≤n
 |.any,_=>True
def ig(σ:Sg):List CV→List Value→Prop
 |[],m=>m=[]
 |x::l,m=>∃ y r,m=y::r∧RV σ x y∧ig σ l r
end
mutual
theorem RV.mono{σ aE:Sg}(h:∀ id x,σ id=some x→aE id=some x):∀ {c:CV} {y:Value},RV σ c y→RV aE c y
 |.i _ _,_,hr=>hr
 |.b _,_,hr=>hr
 |.v _,_,hr=>hr
 |.cp _,_,hr=>hr
 |.any,_,_=>trivial
 |.sl _ _ _ _,_,⟨b,p,c,h1,h2⟩=>⟨b,p,c,h _ _ h1,h2⟩
 |.so _ _ _ _,_,⟨b,p,c,cap,a,h1,h2⟩=>⟨b,p,c,cap,a,h _ _ h1,h2⟩
 |.p _ _,_,⟨b,p,c,h1,h2⟩=>⟨b,p,c,h _ _ h1,h2⟩
 |.m _,_,⟨b,p,c,h1,h2⟩=>⟨b,p,c,h _ _ h1,h2⟩
 |.f _ _,_,⟨l,h1,h2⟩=>⟨l,h1,ig.mono h h2⟩
 |.a _,_,⟨l,h1,h2⟩=>⟨l,h1,ig.mono h h2⟩
 |.t _,_,⟨l,h1,h2⟩=>⟨l,h1,ig.mono h h2⟩
theorem ig.mono{σ aE:Sg}(h:∀ id x,σ id=some x→aE id=some x):∀ {c:List CV} {y:List Value},ig σ c y→ig aE c y
 |[],_,hr=>hr
 |_::_,_,⟨y,r,h1,h2,h3⟩=>⟨y,r,h1,RV.mono h h2,ig.mono h h3⟩
end
def uq(σ:Sg):List (CV×CV×Nat)→List MapEntry→Prop
 |[],m=>m=[]
 |(k,v,b)::l,m=>∃ e r,m=e::r∧RV σ k e.key∧RV σ v e.val∧e.born=b∧uq σ l r
theorem uq.mono{σ aE:Sg}(h:∀ id x,σ id=some x→aE id=some x):∀ {c:List (CV×CV×Nat)} {y:List MapEntry},uq σ c y→uq aE c y
 |[],_,hr=>hr
 |(_,_,_)::_,_,⟨e,r,h1,h2,h3,h4,h5⟩=>⟨e,r,h1,h2.mono h,h3.mono h,h4,h5.mono h⟩
theorem ig.length{σ:Sg}:∀ {c:List CV} {y:List Value},ig σ c y→c.length=y.length
 |[],_,h=>by cases h;rfl
 |_::_,_,⟨_,_,h1,_,h3⟩=>by subst h1;simp[ig.length h3]
theorem hU{α:Type}:∀ (l:List α) (i:Nat),nth l i=l[i]?
 |[],_=>by simp;rfl
 |_::_,0=>rfl
 |x::l,i+1=>by rw[List.getElem?_cons_succ,←hU l i];rfl
theorem ig.nth{σ:Sg}:∀ {c:List CV} {y:List Value},ig σ c y→∀ {i:Nat} {x:CV},nth c i=some x→∃ v,y[i]?=some v∧RV σ x v
 |[],_,_,i,x,hx=>by simp[hU] at hx
 |a::l,_,⟨b,r,h1,h2,h3⟩,i,x,hx=>by
  subst h1
  cases i with
  |zero=>simp[hU] at hx;subst hx;exact⟨b,rfl,h2⟩
  |succ i=>exact(ig.nth h3 (i:=i) (x:=x) (by simpa[hU] using hx)).imp fun v hv=>⟨by simpa using hv.1,hv.2⟩
theorem ig.append{σ:Sg}:∀ {c d:List CV} {y z:List Value},ig σ c y→ig σ d z→ig σ (c++d) (y++z)
 |[],_,_,_,h,h'=>by cases h;exact h'
 |_::_,_,_,_,⟨b,r,h1,h2,h3⟩,h'=>by subst h1;exact⟨b,_,rfl,h2,h3.append h'⟩
theorem Ih{α:Type}:∀ (l:List α) (i:Nat),Qg l i=l.drop i
 |[],_=>by simp[Qg]
 |x::l,0=>rfl
 |x::l,i+1=>by rw[List.drop_succ_cons,←Ih l i];rfl
theorem ig.drop{σ:Sg}:∀ {c:List CV} {y:List Value},ig σ c y→∀ (i:Nat),ig σ (c.drop i) (y.drop i)
 |_,_,h,0=>h
 |[],_,h,i+1=>by cases h;simp[ig]
 |_::_,_,⟨_,_,h1,_,h3⟩,i+1=>by subst h1;exact h3.drop i
theorem Jk{α:Type}:∀ {n:Nat} {l r:List α},tk n l=some r→r=l.take n∧n≤l.length
 |0,l,r,h=>by simp[tk] at h;subst h;simp
 |n+1,[],r,h=>by simp[tk] at h
 |n+1,x::l,r,h=>by
  simp only[tk] at h
  split at h
  ·rename_i s hs
   cases h
   obtain⟨h1,h2⟩:=Jk hs
   exact⟨by simp[h1],by simpa using h2⟩
  ·cases h
theorem ig.take{σ:Sg}:∀ {c:List CV} {y:List Value},ig σ c y→∀ (i:Nat),ig σ (c.take i) (y.take i)
 |_,_,h,0=>by simp[ig]
 |[],_,h,i+1=>by cases h;simp[ig]
 |_::_,_,⟨_,_,h1,h2,h3⟩,i+1=>by subst h1;exact⟨_,_,rfl,h2,h3.take i⟩
def AO.live:AO→Bool
 |.free|.res=>false
 |_=>true
def AO.GV:AO→Bool
 |.free|.res|.k _=>false
 |_=>true
theorem AO.jK:∀ {x:AO},x.GV=true→x.live=true
 |.c _,_|.m _ _,_|.si _ _,_|.mi _ _ _ _,_=>rfl
def wS(σ:Sg)(w:World)(id:Nat):AO→Prop
 |.free=>True
 |.res=>σ id=none
 |.c l=>∃ b p c arr et,σ id=some (b,p,c)∧w.heap[b]?=some (.cells arr et (0,0))∧l.length≤c∧p+c≤arr.size∧ig σ l ((arr.toList.drop p).take l.length)
 |.k l=>∃ b p c arr et fr,σ id=some (b,p,c)∧w.heap[b]?=some (.cells arr et fr)∧l.length≤c∧p+c≤arr.size∧ig σ l ((arr.toList.drop p).take l.length)
 |.m es cl=>∃ b c arr,σ id=some (b,0,c)∧w.heap[b]?=some (.map arr cl)∧uq σ es arr.toList
 |.si s pos=>∃ b c,σ id=some (b,0,c)∧w.heap[b]?=some (.stringIter s pos)
 |.mi m since seen st=>∃ b c mb,σ id=some (b,0,c)∧w.heap[b]?=some (.mapIter mb since ⟨seen⟩ st)∧match m with|none=>mb=none|some i=>∃ y,σ i=some y∧mb=some y.1
theorem wS.mono{σ aE:Sg}{w w':World}{id:Nat}(h:∀ id x,σ id=some x→aE id=some x):∀ {o:AO},wS σ w id o→(o=.res→aE id=none)→
  (∀ x,σ id=some x→o.live=true→w'.heap[x.1]?=w.heap[x.1]?)→wS aE w' id o
 |.free,_,_,_=>trivial
 |.res,_,hr,_=>hr rfl
 |.c _,⟨b,p,c,arr,et,h1,h2,h3,h4,h5⟩,_,hw=>⟨b,p,c,arr,et,h _ _ h1,(hw _ h1 rfl).trans h2,h3,h4,h5.mono h⟩
 |.k _,⟨b,p,c,arr,et,fr,h1,h2,h3,h4,h5⟩,_,hw=>⟨b,p,c,arr,et,fr,h _ _ h1,(hw _ h1 rfl).trans h2,h3,h4,h5.mono h⟩
 |.m _ _,⟨b,c,arr,h1,h2,h3⟩,_,hw=>⟨b,c,arr,h _ _ h1,(hw _ h1 rfl).trans h2,h3.mono h⟩
 |.si _ _,⟨b,c,h1,h2⟩,_,hw=>⟨b,c,h _ _ h1,(hw _ h1 rfl).trans h2⟩
 |.mi none _ _ _,⟨b,c,mb,h1,h2,h3⟩,_,hw=>⟨b,c,mb,h _ _ h1,(hw _ h1 rfl).trans h2,h3⟩
 |.mi (some _) _ _ _,⟨b,c,mb,h1,h2,y,h3,h4⟩,_,hw=>⟨b,c,mb,h _ _ h1,(hw _ h1 rfl).trans h2,y,h _ _ h3,h4⟩
theorem wS.aD{σ:Sg}{w:World}{id:Nat}:∀ {o:AO},wS σ w id o→o.live=true→∃ x,σ id=some x∧x.1<w.heap.size
 |.free,_,h=>by cases h
 |.res,_,h=>by cases h
 |.c _,⟨b,p,c,arr,et,h1,h2,_⟩,_=>⟨_,h1,(abd.1 h2).1⟩
 |.k _,⟨b,p,c,arr,et,fr,h1,h2,_⟩,_=>⟨_,h1,(abd.1 h2).1⟩
 |.m _ _,⟨b,c,arr,h1,h2,_⟩,_=>⟨_,h1,(abd.1 h2).1⟩
 |.si _ _,⟨b,c,h1,h2⟩,_=>⟨_,h1,(abd.1 h2).1⟩
 |.mi _ _ _ _,⟨b,c,mb,h1,h2,_⟩,_=>⟨_,h1,(abd.1 h2).1⟩
structure aQ(σ:Sg)(H:Hp)(w:World):Prop where
 nn:∀ id,H.n≤id→σ id=none
 le:H.n≤4096
 fl:H.fl≤H.n
 mm:∀ id,id<H.n→wS σ w id (H.get id)
 sep:∀ id id' x x',id<H.n→id'<H.n→H.fl≤id→(H.get id).GV=true→(H.get id').live=true→σ id=some x→σ id'=some x'→x.1=x'.1→id=id'
structure cG(σ:Sg)(H:Hp)(w:World)(aE:Sg)(H':Hp)(w':World):Prop where
 same:w'.os=w.os∧w'.tape=w.tape∧w'.output=w.output
 size:w.heap.size≤w'.heap.size
 ext:∀ id x,σ id=some x→aE id=some x
 aY:∀ id,id<H.n→H.get id≠.res→aE id=σ id∧H'.get id≠.res
 Cn:∀ id,id<H.fl→aE id=σ id
 n:H.n≤H'.n
 fl:H'.fl=H.fl
 low:∀ id,id<H.fl→H'.get id=H.get id
 frame:∀ b,b<w.heap.size→(∀ id x,id<H.n→H.fl≤id→(H.get id).GV=true→σ id=some x→x.1≠b)→w'.heap[b]?=w.heap[b]?
 own:∀ id x,id<H'.n→H.fl≤id→(H'.get id).GV=true→aE id=some x→x.1<w.heap.size→∃ sd x0,sd<H.n∧H.fl≤sd∧(H.get sd).GV=true∧σ sd=some x0∧x0.1=x.1
 Bs:∀ id x,id<H'.n→H.fl≤id→(H'.get id).live=true→aE id=some x→x.1<w.heap.size→∃ sd x0,sd<H.n∧H.fl≤sd∧(H.get sd).live=true∧σ sd=some x0∧x0.1=x.1
theorem cG.refl(σ:Sg)(H:Hp)(w:World):cG σ H w σ H w where
 same:=⟨rfl,rfl,rfl⟩
 size:=aaZ _
 ext:=fun _ _ h=>h
 aY:=fun _ _ h=>⟨rfl,h⟩
 Cn:=fun _ _=>rfl
 n:=aaZ _
 fl:=rfl
 low:=fun _ _=>rfl
 frame:=fun _ _ _=>rfl
 own:=fun id x h1 h2 h3 h4 _=>⟨id,x,h1,h2,h3,h4,rfl⟩
 Bs:=fun id x h1 h2 h3 h4 _=>⟨id,x,h1,h2,h3,h4,rfl⟩
theorem cG.trans{σ aE WE:Sg}{H H' H'':Hp}{w w' Cy:World}(h:cG σ H w aE H' w')(h':cG aE H' w' WE H'' Cy):cG σ H w WE H'' Cy where
 same:=⟨h'.same.1.trans h.same.1,h'.same.2.1.trans h.same.2.1,h'.same.2.2.trans h.same.2.2⟩
 size:=abE h.size h'.size
 ext:=fun id x hx=>h'.ext id x (h.ext id x hx)
 aY:=fun id hi hr=>by
  obtain⟨h1,h2⟩:=h.aY id hi hr
  obtain⟨h3,h4⟩:=h'.aY id (aa_ hi h.n) h2
  exact⟨h3.trans h1,h4⟩
 Cn:=fun id hi=>(h'.Cn id (by rw[h.fl];exact hi)).trans (h.Cn id hi)
 n:=abE h.n h'.n
 fl:=h'.fl.trans h.fl
 low:=fun id hi=>(h'.low id (by rw[h.fl];exact hi)).trans (h.low id hi)
 frame:=fun b hb ho=>by
  refine(h'.frame b (aa_ hb h.size) ?_).trans (h.frame b hb ho)
  intro id x h1 h2 h3 h4 h5
  rw[h.fl] at h2
  obtain⟨i0,x0,k1,k2,k3,k4,k5⟩:=h.own id x h1 h2 h3 h4 (by rw[h5];exact hb)
  exact ho i0 x0 k1 k2 k3 k4 (k5.trans h5)
 own:=fun id x h1 h2 h3 h4 h5=>by
  obtain⟨i1,x1,k1,k2,k3,k4,k5⟩:=h'.own id x h1 (by rw[h.fl];exact h2) h3 h4 (aa_ h5 h.size)
  rw[h.fl] at k2
  obtain⟨i0,x0,l1,l2,l3,l4,l5⟩:=h.own i1 x1 k1 k2 k3 k4 (by rw[k5];exact h5)
  exact⟨i0,x0,l1,l2,l3,l4,l5.trans k5⟩
 Bs:=fun id x h1 h2 h3 h4 h5=>by
  obtain⟨i1,x1,k1,k2,k3,k4,k5⟩:=h'.Bs id x h1 (by rw[h.fl];exact h2) h3 h4 (aa_ h5 h.size)
  rw[h.fl] at k2
  obtain⟨i0,x0,l1,l2,l3,l4,l5⟩:=h.Bs i1 x1 k1 k2 k3 k4 (by rw[k5];exact h5)
  exact⟨i0,x0,l1,l2,l3,l4,l5.trans k5⟩
theorem aQ.new{σ:Sg}{H:Hp}{w:World}(hw:aQ σ H w){x:AO}{o:Obj}{y:Nat×Nat}(hn:H.n<4096)(hx:x≠.res)
  (he:∀ aE:Sg,(∀ id z,σ id=some z→aE id=some z)→aE H.n=some (w.heap.size,y)→wS aE {w with heap:=w.heap.push o } H.n x):
  ∃ aE:Sg,aE H.n=some (w.heap.size,y)∧aQ aE ⟨(bg AO 4 H.n).s x H.h,H.n+1,H.fl⟩ {w with heap:=w.heap.push o }∧
   cG σ H w aE ⟨(bg AO 4 H.n).s x H.h,H.n+1,H.fl⟩ {w with heap:=w.heap.push o }:=by
 refine⟨fun i=>if i=H.n then some (w.heap.size,y) else σ i,by simp,?_,?_⟩
 all_goals
  have r8:∀ id z,σ id=some z→(fun i=>if i=H.n then some (w.heap.size,y) else σ i) id=some z:=by
   intro id z hz
   have:id≠H.n:=fun hc=>by rw[hw.nn id (by omega)] at hz;cases hz
   simp[this,hz]
  have ax:∀ id,id<H.n→(⟨(bg AO 4 H.n).s x H.h,H.n+1,H.fl⟩:Hp).get id=H.get id:=fun id hi=>Hp.dF _ _ _ _ _ _ (by omega) hn (by omega)
  have jJ:(⟨(bg AO 4 H.n).s x H.h,H.n+1,H.fl⟩:Hp).get H.n=x:=Hp.get_set_same _ _ _ _ _
  have p7:∀ b,b<w.heap.size→(w.heap.push o)[b]?=w.heap[b]?:=fun b hb=>by rw[acF];simp[Nat.ne_of_lt hb]
  have hblk:∀ id z,id<H.n→(H.get id).live=true→σ id=some z→z.1<w.heap.size:=fun id z hi hl hz=>by
   obtain⟨z',h1,h2⟩:=(hw.mm id hi).aD hl
   rw[hz] at h1;cases h1;exact h2
 ·refine⟨fun id hi=>?_,hn,ad9 hw.fl,fun id hi=>?_,?_⟩
  ·have:id≠H.n:=by simp at hi;omega
   simp only[this,abb];exact hw.nn id (by simp at hi;omega)
  ·by_cases h:id=H.n
   ·subst h;rw[jJ];exact he _ r8 (by simp)
   ·have uC:id<H.n:=by simp at hi;omega
    rw[ax id uC]
    exact(hw.mm id uC).mono r8 (fun hr=>by
     have:=hw.mm id uC;rw[hr] at this
     simp only[h,abb];exact this) (fun z hz hl=>p7 _ (hblk id z uC hl hz))
  ·intro id id' z z' h1 h2 h3 h4 h5 h6 h7 h8
   by_cases h:id=H.n<;>by_cases h':id'=H.n
   ·omega
   ·exfalso
    have uC:id'<H.n:=by simp at h2;omega
    rw[ax id' uC] at h5
    simp only[h',abb] at h7
    have:=hblk id' z' uC h5 h7
    simp only[h,abh,aaW] at h6
    subst h6;simp at h8;omega
   ·exfalso
    have uC:id<H.n:=by simp at h1;omega
    rw[ax id uC] at h4
    simp only[h,abb] at h6
    have:=hblk id z uC (AO.jK h4) h6
    simp only[h',abh,aaW] at h7
    subst h7;simp at h8;omega
   ·have k1:id<H.n:=by simp at h1;omega
    have k2:id'<H.n:=by simp at h2;omega
    rw[ax id k1] at h4
    rw[ax id' k2] at h5
    simp only[h,abb] at h6
    simp only[h',abb] at h7
    exact hw.sep id id' z z' k1 k2 h3 h4 h5 h6 h7 h8
 ·refine⟨⟨rfl,rfl,rfl⟩,by simp,r8,fun id hi hr=>?_,fun id hi=>by have:id≠H.n:=(by have:=hw.fl;omega);simp[this],adF _,rfl,fun id hi=>ax id (aa_ hi hw.fl),fun b hb _=>p7 b hb,?_,?_⟩
  ·have:id≠H.n:=by omega
   exact⟨by simp[this],by rw[ax id hi];exact hr⟩
  ·intro id z h1 h2 h3 h4 h5
   by_cases h:id=H.n
   ·exfalso;simp only[h,abh,aaW] at h4;subst h4;simp at h5
   ·have uC:id<H.n:=by simp at h1;omega
    simp only[h,abb] at h4
    rw[ax id uC] at h3
    exact⟨id,z,uC,h2,h3,h4,rfl⟩
  ·intro id z h1 h2 h3 h4 h5
   by_cases h:id=H.n
   ·exfalso;simp only[h,abh,aaW] at h4;subst h4;simp at h5
   ·have uC:id<H.n:=by simp at h1;omega
    simp only[h,abb] at h4
    rw[ax id uC] at h3
    exact⟨id,z,uC,h2,h3,h4,rfl⟩
theorem aQ.wr{σ:Sg}{H:Hp}{w w':World}(hw:aQ σ H w){id:Nat}{x:AO}{z:Nat×Nat×Nat}(hi:id<H.n)(hf:H.fl≤id)(hl:(H.get id).GV=true)(hz:σ id=some z)
  (hs:w'.os=w.os∧w'.tape=w.tape∧w'.output=w.output)(dE:w'.heap.size=w.heap.size)(hh:∀ b,b≠z.1→w'.heap[b]?=w.heap[b]?)(hx:x≠.res)
  (he:wS σ w' id x):aQ σ ⟨(bg AO 4 id).s x H.h,H.n,H.fl⟩ w'∧cG σ H w σ ⟨(bg AO 4 id).s x H.h,H.n,H.fl⟩ w':=by
 have hle:=hw.le
 have ax:∀ j,j<H.n→j≠id→(⟨(bg AO 4 id).s x H.h,H.n,H.fl⟩:Hp).get j=H.get j:=fun j hj aR=>Hp.dF _ _ _ _ _ _ (by omega) (by omega) aR
 have jJ:(⟨(bg AO 4 id).s x H.h,H.n,H.fl⟩:Hp).get id=x:=Hp.get_set_same _ _ _ _ _
 have RU:∀ j,j<H.n→((⟨(bg AO 4 id).s x H.h,H.n,H.fl⟩:Hp).get j).live=true→(H.get j).live=true:=fun j hj h=>by
  by_cases pL:j=id
  ·subst pL;exact AO.jK hl
  ·rwa[ax j hj pL] at h
 have WG:∀ j,j<H.n→((⟨(bg AO 4 id).s x H.h,H.n,H.fl⟩:Hp).get j).GV=true→(H.get j).GV=true:=fun j hj h=>by
  by_cases pL:j=id
  ·subst pL;exact hl
  ·rwa[ax j hj pL] at h
 refine⟨⟨hw.nn,hw.le,hw.fl,fun j hj=>?_,?_⟩,⟨hs,by omega,fun _ _ h=>h,fun j hj hr=>⟨rfl,?_⟩,fun _ _=>rfl,aaZ _,rfl,fun j hj=>ax j (aa_ hj hw.fl) (by omega),?_,?_,?_⟩⟩
 ·by_cases pL:j=id
  ·subst pL;rw[jJ];exact he
  ·rw[ax j hj pL]
   exact(hw.mm j hj).mono (fun _ _ h=>h) (fun hr=>by have:=hw.mm j hj;rw[hr] at this;exact this)
    (fun y hy hly=>hh _ fun hc=>pL (hw.sep id j z y hi hj hf hl hly hz hy hc.symm).symm)
 ·intro j j' y y' h1 h2 h3 h4 h5 h6 h7 h8
  exact hw.sep j j' y y' h1 h2 h3 (WG j h1 h4) (RU j' h2 h5) h6 h7 h8
 ·by_cases pL:j=id
  ·subst pL;rw[jJ];exact hx
  ·rw[ax j hj pL];exact hr
 ·intro b hb ho
  exact hh b fun hc=>ho id z hi hf hl hz hc.symm
 ·intro j y h1 h2 h3 h4 h5
  exact⟨j,y,h1,h2,WG j h1 h3,h4,rfl⟩
 ·intro j y h1 h2 h3 h4 h5
  exact⟨j,y,h1,h2,RU j h1 h3,h4,rfl⟩
theorem rB{H:Hp}{id:Nat}{l:List CV}(h:row H id=some l):H.get id=.c l:=by
 unfold row at h;split at h<;>simp_all
theorem aQ.lt{σ:Sg}{H:Hp}{w:World}(hw:aQ σ H w){id:Nat}{z:Nat×Nat×Nat}(h:σ id=some z):id<H.n:=by
 rcases ab8 id H.n with h1|h1
 ·exact h1
 ·rw[hw.nn id h1] at h;cases h
end Go.Proofs.YtjdnbobilgamdaaGreatDoor.Ev
end
