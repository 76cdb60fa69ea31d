/- slices.Compact in plain Lean: equal neighbours are left out. The example, and classes of numbers. Lists of numbers in order; what a valid list of rules is. Records, groups and what keeps apart. Groups, and what keeps apart, in the program. What the reference says of records, in plain Lean. Distances of lists from either end, in plain Lean. Conditions: none. -/
import Derived.Test.YtjdnbobilgamdaaGreatDoorNt
import Derived.Test.YtjdnbobilgamdaaGreatDoorAb34
import Derived.Test.YtjdnbobilgamdaaGreatDoorMi
import Derived.Test.YtjdnbobilgamdaaGreatDoorDvr
import Derived.Test.YtjdnbobilgamdaaGreatDoorAl
section
namespace Go.Proofs.YtjdnbobilgamdaaGreatDoor.Ab
open Go
section
variable {α:Type}[DecidableEq α]
def PQ(s2:Int)(v7:List α)(s8:Int)(s9:Int)(kp:List α):Option ((Int×Int×List α)⊕(Int×List α)):=
 if (decide (s9<(v7.length:Int)))=true then
  (
   (ix v7 s9).bind fun _=>
   (ix kp (s2+s9)).bind fun v12=>
   (ix v7 (IntKind.i64.wrap (s9-(1:Int)))).bind fun _=>
   (ix kp (s2+(IntKind.i64.wrap (s9-(1:Int))))).bind fun uH=>
   if (!decide (v12=uH))=true then
    (ix v7 s9).bind fun _=>
    (ix kp (s2+s9)).bind fun xB=>
    (ix kp s8).bind fun _=>
    (ku kp s8 xB).bind fun ES=>
    some ((IntKind.i64.wrap (s8+(1:Int))),ES)
   else
   some (s8,kp):Option (Int×(List α))).bind fun t19=>
  some (.inl (t19.1,(IntKind.i64.wrap (s9+(1:Int))),t19.2))
 else
 some (.inr (s8,kp))
def HJ(n:Nat)(z:α)(c1:List α)(s2:Int):Option (Int⊕(List α⊕Unit)):=
 if (decide (s2<(c1.length:Int)))=true then
  (ix c1 s2).bind fun _=>
  (ix c1 s2).bind fun v4=>
  (ix c1 (IntKind.i64.wrap (s2-(1:Int)))).bind fun _=>
  (ix c1 (IntKind.i64.wrap (s2-(1:Int)))).bind fun v6=>
  if (decide (v4=v6))=true then
   (oR c1 s2 (c1.length:Int)).bind fun v7=>
   (iter n (fun s=>PQ s2 v7 s.1 s.2.1 s.2.2) (s2,(1:Int),c1)).bind fun t8=>
   (oR t8.2 t8.1 (t8.2.length:Int)).bind fun v9=>
   (oR (ql t8.2 t8.1.toNat v9.length z) (0:Int) t8.1).bind fun v10=>
   some (.inr (.inl v10))
  else
  some (.inl (IntKind.i64.wrap (s2+(1:Int))))
 else
 some (.inr (.inr ()))
def XK(n:Nat)(z:α)(c1:List α):Option (List α):=
 if (decide ((c1.length:Int)<(2:Int)))=true then
  some c1
 else
 (iter n (fun s=>HJ n z c1 s) (1:Int)).bind fun t2=>match t2 with
 |(.inl u3)=>
  some u3
 |(.inr _)=>
  some c1
def dJ:List α→List α
 |[]=>[]
 |x::l=>if l.head?=some x then dJ l else x::dJ l
theorem ry(x:α):∀ l:List α,dJ (l++[x])=if l.getLast?=some x then dJ l else dJ l++[x]
 |[]=>by simp[dJ]
 |[y]=>by
  by_cases h:y=x
  ·subst h;simp[dJ]
  ·have h':¬x=y:=fun e=>h e.symm
   simp[dJ,h,h']
 |y::z::l=>by
  have ih:=ry x (z::l)
  rw[adt,dJ,ih]
  have e1:(z::l++[x]).head?=some z:=rfl
  have e2:(y::z::l).getLast?=(z::l).getLast?:=by simp[List.getLast?_cons_cons]
  rw[e1,e2]
  have e3:dJ (y::z::l)=if some z=some y then dJ (z::l) else y::dJ (z::l):=rfl
  rw[e3]
  split<;>split<;>rfl
theorem wG:∀ {c:List α},(∀ i,i+1<c.length→c[i+1]?≠c[i]?)→dJ c=c
 |[],_=>rfl
 |[x],_=>by simp[dJ]
 |x::y::l,h=>by
  have h0:=h 0 (by simp)
  have ih:=wG (c:=y::l) (fun i hi=>by
   have:=h (i+1) (by simpa using hi)
   simpa using this)
  rw[dJ,ih,aa7]
  intro e
  apply h0
  simpa using e
omit [DecidableEq α] in
theorem S8{l:List α}{i:Nat}:ix l (i:Int)=l[i]?:=by simp[ix]
theorem xS:∀ c:List α,(dJ c).length≤c.length
 |[]=>aaZ _
 |x::l=>by
  have:=xS l
  rw[dJ]
  split<;>simp<;>omega
theorem YM{c:List α}{j:Nat}(hl:c.length≤ML):∀ (k a b fuel:Nat) (s:List α),j+b+k=c.length→1≤b→k<fuel→s.length=c.length→a+1≤j+b→(∀ m,j+b≤m+1→s[m]?=c[m]?)→
  s.take a=dJ (c.take (j+b))→a≤c.length→
  ∃ s',iter fuel (fun s=>PQ (j:Int) (c.drop j) s.1 s.2.1 s.2.2) ((a:Int),(b:Int),s)=some (((dJ c).length:Int),s')∧s'.length=c.length∧s'.take (dJ c).length=dJ c
 |k,a,b,0,s,_,_,h,_,_,_,_,_=>by omega
 |0,a,b,fuel+1,s,h1,h2,_,h4,h5,h6,h7,h8=>by
  have ha:a=(dJ c).length:=by
   have:=adg List.length h7
   rw[abI,acH (by omega)] at this
   omega
  rw[acH (show c.length≤j+b by omega)] at h7
  refine⟨s,?_,h4,by rw[←ha];exact h7⟩
  rw[iter]
  simp only[PQ]
  rw[aa7 (by simp;omega),←ha];rfl
 |k+1,a,b,fuel+1,s,h1,h2,h3,h4,h5,h6,h7,h8=>by
  have bB:j+b<c.length:=by omega
  have di:j+b-1<c.length:=by omega
  have x1:ix (c.drop j) (b:Int)=some c[j+b]:=by rw[S8,abn,aaV bB]
  have eb:IntKind.i64.wrap ((b:Int)-1)=((b-1:Nat):Int):=by rw[jT (by omega) (by simp only[ML] at hl;omega)];omega
  have x2:ix (c.drop j) ((b-1:Nat):Int)=some c[j+b-1]:=by
   rw[S8,abn,show j+(b-1)=j+b-1 by omega,aaV di]
  have x3:ix s ((j:Int)+(b:Int))=some c[j+b]:=by
   rw[show(j:Int)+(b:Int)=((j+b:Nat):Int) by omega,S8,h6 _ (by omega),aaV bB]
  have x4:ix s ((j:Int)+((b-1:Nat):Int))=some c[j+b-1]:=by
   rw[show(j:Int)+((b-1:Nat):Int)=((j+b-1:Nat):Int) by omega,S8,h6 _ (by omega),aaV di]
  have et:c.take (j+b+1)=c.take (j+b)++[c[j+b]]:=by rw[acD,aaV bB];rfl
  have I2:(c.take (j+b)).getLast?=some c[j+b-1]:=by
   rw[ad3,abI,acr (by omega),ady (by omega),aaV di]
  have ew:IntKind.i64.wrap ((b:Int)+1)=((b+1:Nat):Int):=by rw[jT (by omega) (by simp only[ML] at hl;omega)];rfl
  rw[iter]
  simp only[PQ]
  rw[aa2 (by simp;omega),eb,x1,aaQ,x3,aaQ,x2,aaQ,x4,aaQ]
  by_cases hx:c[j+b]=c[j+b-1]
  ·rw[aa7 (by simp[hx]),aaQ,aaQ]
   dsimp only
   rw[ew]
   refine YM hl k a (b+1) fuel s (by omega) (by omega) (by omega) h4 (by omega) (fun m hm=>h6 m (by omega)) ?_ h8
   rw[←Nat.add_assoc,et,ry,aa2 (by rw[I2,hx]),h7]
  ·have YN:a<s.length:=by omega
   have x5:ix s (a:Int)=some s[a]:=by rw[S8,aaV YN]
   have x6:ku s (a:Int) c[j+b]=some (s.set a c[j+b]):=by
    unfold ku;rw[aa2 ⟨by omega,by omega⟩];rfl
   have ea:IntKind.i64.wrap ((a:Int)+1)=((a+1:Nat):Int):=by rw[jT (by omega) (by simp only[ML] at hl;omega)];rfl
   rw[aa2 (by simp[hx]),x5]
   simp only[aaQ]
   rw[x6]
   simp only[aaQ]
   rw[ew,ea]
   refine YM hl k (a+1) (b+1) fuel (s.set a c[j+b]) (by omega) (by omega) (by omega) (by simpa using h4) (by omega) (fun m hm=>?_) ?_ (by omega)
   ·rw[abR (by omega)];exact h6 m (by omega)
   ·rw[←Nat.add_assoc,et,ry,aa7 (by rw[I2];intro e;injection e with e;exact hx e.symm),←h7]
    rw[acD,acg YN,List.take_set_of_le (aaZ _)]
    rfl
theorem cp1{n:Nat}{z:α}{c:List α}(hl:c.length≤ML)(hn:c.length<n):∀ (k j fuel:Nat),j+k=c.length→1≤j→k<fuel→(∀ i,i+1<j→c[i+1]?≠c[i]?)→
  ∃ r,iter fuel (fun s=>HJ n z c s) (j:Int)=some r∧Sum.elim id (fun _=>c) r=dJ c
 |k,j,0,_,_,h,_=>by omega
 |0,j,fuel+1,h1,h2,_,h4=>by
  refine⟨.inr (),?_,(wG (fun i hi=>h4 i (by omega))).symm⟩
  rw[iter]
  simp only[HJ]
  rw[aa7 (by simp;omega)];rfl
 |k+1,j,fuel+1,h1,h2,h3,h4=>by
  have bB:j<c.length:=by omega
  have di:j-1<c.length:=by omega
  have x1:ix c (j:Int)=some c[j]:=by rw[S8,aaV bB]
  have eb:IntKind.i64.wrap ((j:Int)-1)=((j-1:Nat):Int):=by rw[jT (by omega) (by simp only[ML] at hl;omega)];omega
  have x2:ix c ((j-1:Nat):Int)=some c[j-1]:=by rw[S8,aaV di]
  rw[iter]
  simp only[HJ]
  rw[aa2 (by simp;omega),eb,x1,aaQ,aaQ,x2,aaQ,aaQ]
  by_cases hx:c[j]=c[j-1]
  ·have hs:oR c (j:Int) (c.length:Int)=some (c.drop j):=by
    unfold oR;rw[aa2 ⟨by omega,by omega,by omega⟩,aa8,aa8,abO]
   have hid:dJ (c.take j)=c.take j:=wG (fun i hi=>by
    rw[abI] at hi
    rw[ady (by omega),ady (by omega)]
    exact h4 i (by omega))
   have et:c.take (j+1)=c.take j++[c[j]]:=by rw[acD,aaV bB];rfl
   have I2:(c.take j).getLast?=some c[j-1]:=by
    rw[ad3,abI,acr (by omega),ady (by omega),aaV di]
   obtain⟨s',g1,g2,g3⟩:=YM (c:=c) (j:=j) hl (c.length-j-1) j 1 n c (by omega) (by omega) (by omega) rfl (by omega) (fun _ _=>rfl) (by
    rw[et,ry,aa2 (by rw[I2,hx]),hid]) (by omega)
   have oQ:=xS c
   rw[aa2 (by simp[hx]),hs,aaQ,show(1:Int)=((1:Nat):Int) from rfl,g1,aaQ]
   dsimp only
   have YO:oR s' ((dJ c).length:Int) (s'.length:Int)=some (s'.drop (dJ c).length):=by
    unfold oR;rw[aa2 ⟨by omega,by omega,by omega⟩,aa8,aa8,abO]
   rw[YO,aaQ]
   have VY:(ql s' (dJ c).length (s'.drop (dJ c).length).length z).length=s'.length:=sy (by rw[ack];omega)
   have hs3:oR (ql s' (dJ c).length (s'.drop (dJ c).length).length z) 0 ((dJ c).length:Int)=some (dJ c):=by
    unfold oR
    rw[aa2 ⟨by omega,by omega,by omega⟩,aa8]
    have:(ql s' (dJ c).length (s'.drop (dJ c).length).length z).take (dJ c).length=dJ c:=by
     unfold ql
     rw[abk,List.take_append_of_le_length (by rw[abI];omega),aet,Nat.min_self,g3]
    rw[this];rfl
   rw[aa8,hs3]
   exact⟨_,rfl,rfl⟩
  ·have ew:IntKind.i64.wrap ((j:Int)+1)=((j+1:Nat):Int):=by rw[jT (by omega) (by simp only[ML] at hl;omega)];rfl
   rw[aa7 (by simp[hx]),ew,aaQ]
   refine cp1 hl hn k (j+1) fuel (by omega) (by omega) (by omega) (fun i hi=>?_)
   by_cases AJ:i+1=j
   ·have e2:i=j-1:=by omega
    rw[AJ,e2,aaV bB,aaV di]
    intro e;injection e with e;exact hx e
   ·exact h4 i (by omega)
theorem S9{n:Nat}{z:α}{c:List α}(hl:c.length≤ML)(hn:c.length<n):XK n z c=some (dJ c):=by
 unfold XK
 by_cases h2:c.length<2
 ·rw[aa2 (by simp;omega),wG (fun i hi=>by omega)]
 ·obtain⟨r,h3,h4⟩:=cp1 (z:=z) hl hn (c.length-1) 1 n (by omega) (by omega) (by omega) (fun i hi=>by omega)
  rw[aa7 (by simp;omega),show(1:Int)=((1:Nat):Int) from rfl,h3,aaQ]
  cases r<;>(rw[←h4];rfl)
theorem xT{x:α}:∀ {l:List α},x∈dJ l↔x∈l
 |[]=>Iff.rfl
 |y::l=>by
  have ih:=xT (x:=x) (l:=l)
  rw[dJ]
  split
  ·rename_i h
   rw[ih,abq]
   constructor
   ·exact .inr
   ·rintro(e|e)
    ·subst e
     cases l with
     |nil=>cases h
     |cons z l=>injection h with h;rw[h];exact abr ..
    ·exact e
  ·rw[abq,abq,ih]
theorem CU{lt:α→α→Prop}(ht:∀ x y z,lt x y→lt y z→lt x z)(S_:∀ x y,¬lt y x→x=y∨lt x y):∀ {l:List α},l.Pairwise (fun a b=>¬lt b a)→(dJ l).Pairwise lt
 |[],_=>List.Pairwise.nil
 |x::l,h=>by
  have h1:=acf.1 h
  have ih:=CU ht S_ h1.2
  rw[dJ]
  split
  ·exact ih
  ·rename_i hh
   refine acf.2 ⟨fun y hy=>?_,ih⟩
   cases l with
   |nil=>cases hy
   |cons z l=>
    have hz:¬z=x:=fun e=>hh (by rw[e];rfl)
    have YP:lt x z:=by
     rcases S_ _ _ (h1.1 z (abr ..)) with e|e
     ·exact absurd e.symm hz
     ·exact e
    rcases abq.1 (xT.1 hy) with e|e
    ·rw[e];exact YP
    ·rcases S_ _ _ ((acf.1 h1.2).1 y e) with e2|e2
     ·rw[←e2];exact YP
     ·exact ht _ _ _ YP e2
omit [DecidableEq α] in
theorem I3{lt:α→α→Prop}(hi:∀ {x},¬lt x x)(ht:∀ {x y z},lt x y→lt y z→lt x z):∀ {l k:List α},l.Pairwise lt→k.Pairwise lt→(∀ x,x∈l↔x∈k)→l=k
 |[],[],_,_,_=>rfl
 |[],y::k,_,_,h=>by have:=(h y).2 (abr ..);cases this
 |x::l,[],_,_,h=>by have:=(h x).1 (abr ..);cases this
 |x::l,y::k,hl,hk,h=>by
  have h1:=acf.1 hl
  have h2:=acf.1 hk
  have e:x=y:=by
   rcases abq.1 ((h x).1 (abr ..)) with e|e
   ·exact e
   ·rcases abq.1 ((h y).2 (abr ..)) with e2|e2
    ·exact e2.symm
    ·exact absurd (ht (h1.1 y e2) (h2.1 x e)) hi
  subst e
  rw[I3 hi ht h1.2 h2.2 (fun z=>?_)]
  constructor
  ·intro hz
   rcases abq.1 ((h z).1 (aby _ hz)) with e|e
   ·subst e;exact absurd (h1.1 z hz) hi
   ·exact e
  ·intro hz
   rcases abq.1 ((h z).2 (aby _ hz)) with e|e
   ·subst e;exact absurd (h2.1 z hz) hi
   ·exact e
end
end Go.Proofs.YtjdnbobilgamdaaGreatDoor.Ab
end
section
namespace Go.Proofs.YtjdnbobilgamdaaGreatDoor.Ab.JN
open Go
section
variable {κ ν:Type}[DecidableEq κ]
theorem GF(k:κ):ft ([]:List (κ×ν)) k=none:=rfl
theorem gL(x:κ×ν)(m:List (κ×ν))(k:κ):ft (x::m) k=if k=x.1 then some x.2 else ft m k:=by
 unfold ft
 rw[e_]
 by_cases h:k=x.1
 ·simp[h]
 ·rw[aa7 h,aa7 h]
  cases e_ m k with
  |none=>rfl
  |some j=>simp
theorem yG(x:κ×ν)(m:List (κ×ν))(k:κ)(v:ν):jl (x::m) k v=if k=x.1 then (k,v)::m else x::jl m k v:=by
 unfold jl
 rw[e_]
 by_cases h:k=x.1
 ·simp[h]
 ·rw[aa7 h,aa7 h]
  cases e_ m k with
  |none=>rfl
  |some j=>simp
theorem uc(m:List (κ×ν))(k k':κ)(v:ν):ft (jl m k v) k'=if k'=k then some v else ft m k':=by
 induction m with
 |nil=>
  show ft [(k,v)] k'=_
  rw[gL,GF]
 |cons x m ih=>
  rw[yG]
  by_cases h:k=x.1
  ·rw[aa2 h,gL,gL]
   dsimp only
   by_cases h2:k'=k
   ·rw[aa2 h2,aa2 h2]
   ·rw[aa7 h2,aa7 h2,aa7 (fun h3=>h2 (h3.trans h.symm))]
  ·rw[aa7 h,gL,gL,ih]
   by_cases h2:k'=x.1
   ·rw[aa2 h2,aa2 h2,aa7 (fun h3=>h (h3.symm.trans h2))]
   ·rw[aa7 h2,aa7 h2]
theorem Oo(m:List (κ×ν))(k:κ)(v:ν):(jl m k v).length≤m.length+1:=by
 unfold jl
 split<;>simp
theorem A'{m:List (κ×ν)}{k:κ}{v:ν}(h:ft m k=some v):(k,v)∈m:=by
 induction m with
 |nil=>cases h
 |cons x m ih=>
  rw[gL] at h
  split at h
  ·rename_i hk;injection h with h;subst h;subst hk;exact abr
  ·exact aby _ (ih h)
end
def re(r:Int→Int)(x:ae)(y:Int):Int:=if x.ee=1 then (if r y=max (r x.fA) (r x.fB) then min (r x.fA) (r x.fB) else r y) else r y
def root(l:List ae):Int→Int:=l.foldl re id
structure UF(c:List (Int×Int))(r:Int→Int):Prop where
 par:∀ k v,ft c k=some v→v≤k∧r v=r k
 le:∀ x,r x≤x
 idem:∀ x,r (r x)=r x
 iff:∀ x,r x=x↔(ft c x=none∨ft c x=some x)
theorem UF.nil:UF [] id:=⟨fun k v h=>(by cases h),fun _=>Int.le_refl _,fun _=>rfl,fun x=>by simp[GF]⟩
theorem UF.merge{c:List (Int×Int)}{r:Int→Int}(h:UF c r){M m:Int}(hle:m≤M)(hM:r M=M)(hm:r m=m):UF (jl c M m) (fun y=>if r y=M then m else r y) where
 par k v hg:=by
  rw[uc] at hg
  split at hg
  ·rename_i hk;injection hg with hg;subst hg;subst hk
   refine⟨hle,?_⟩
   rw[aa2 hM,hm]
   split<;>rfl
  ·obtain⟨h1,h2⟩:=h.par k v hg
   refine⟨h1,?_⟩
   rw[h2]
 le x:=by
  have:=h.le x
  split<;>omega
 idem x:=by
  by_cases hx:r x=M
  ·rw[aa2 hx,hm];split<;>rfl
  ·rw[aa7 hx,h.idem,aa7 hx]
 iff x:=by
  rw[uc]
  have h1:=h.iff x
  have h2:=h.le x
  by_cases hx:x=M
  ·subst hx
   rw[aa2 rfl,aa2 hM]
   simp
  ·rw[aa7 hx]
   by_cases hr:r x=M
   ·rw[aa2 hr,←h1,hr]
    omega
   ·rw[aa7 hr];exact h1
def zh(r:Int→Int)(x:ae)(c:List (Int×Int)):List (Int×Int):=if x.ee=1 then jl c (max (r x.fA) (r x.fB)) (min (r x.fA) (r x.fB)) else c
theorem UF.put{c:List (Int×Int)}{r:Int→Int}(h:UF c r)(x:ae):UF (zh r x c) (re r x):=by
 unfold zh
 by_cases hk:x.ee=1
 rotate_left
 ·have:re r x=r:=by funext y;simp[re,hk]
  rw[aa7 hk,this];exact h
 have:re r x=fun y=>if r y=max (r x.fA) (r x.fB) then min (r x.fA) (r x.fB) else r y:=by funext y;simp[re,hk]
 rw[aa2 hk,this]
 refine h.merge (by omega) ?_ ?_
 ·rcases Int.le_total (r x.fA) (r x.fB) with q|q
  ·rw[Int.max_eq_right q];exact h.idem _
  ·rw[Int.max_eq_left q];exact h.idem _
 ·rcases Int.le_total (r x.fA) (r x.fB) with q|q
  ·rw[Int.min_eq_left q];exact h.idem _
  ·rw[Int.min_eq_right q];exact h.idem _
def cls:List ae→List (Int×Int):=fun l=>(l.foldl (fun(p:List (Int×Int)×(Int→Int)) x=>(zh p.2 x p.1,re p.2 x)) ([],id)).1
theorem Oq(l:List ae):l.foldl (fun(p:List (Int×Int)×(Int→Int)) x=>(zh p.2 x p.1,re p.2 x)) ([],id)=(cls l,root l):=by
 have:∀ (l:List ae) (c:List (Int×Int)) (r:Int→Int),(l.foldl (fun(p:List (Int×Int)×(Int→Int)) x=>(zh p.2 x p.1,re p.2 x)) (c,r)).2=l.foldl re r:=by
  intro l
  induction l with
  |nil=>intro c r;rfl
  |cons x l ih=>intro c r;exact ih _ _
 exact Prod.ext rfl (this l [] id)
theorem yH(l:List ae)(x:ae):root (l++[x])=re (root l) x:=by simp[root]
theorem B6(l:List ae)(x:ae):cls (l++[x])=zh (root l) x (cls l):=by
 have:=Oq l
 unfold cls
 rw[List.foldl_append,this]
 rfl
theorem xp{α:Type}{p:List α→Prop}(h0:p [])(h1:∀ l x,p l→p (l++[x]))(l:List α):p l:=by
 have:∀ k:List α,p k.reverse:=fun k=>by
  induction k with
  |nil=>exact h0
  |cons x k ih=>rw[List.reverse_cons];exact h1 _ _ ih
 have:=this l.reverse
 rwa[List.reverse_reverse] at this
theorem uf(l:List ae):UF (cls l) (root l):=by
 refine xp (p:=fun l=>UF (cls l) (root l)) .nil (fun l x ih=>?_) l
 rw[B6,yH];exact ih.put x
theorem Q4(l:List ae):(cls l).length≤l.length:=by
 refine xp (p:=fun l=>(cls l).length≤l.length) (aaZ _) (fun l x ih=>?_) l
 rw[B6,aa9]
 unfold zh
 split
 ·have:=Oo (cls l) (max (root l x.fA) (root l x.fB)) (min (root l x.fA) (root l x.fB))
  simp only[abp,ada];omega
 ·simp only[abp,ada];omega
theorem R8{n:Nat}{c:List (Int×Int)}{r:Int→Int}(h:UF c r):∀ (k fuel:Nat) (s:Int),(c.filter fun q=>decide (q.1≤s)).length≤k→k<fuel→iter fuel (fun s=>cj n c s) s=some (r s)
 |k,0,s,_,hf=>by omega
 |k,fuel+1,s,hk,hf=>by
  rw[iter]
  simp only[cj]
  cases hg:ft c s with
  |none=>
   have:=(h.iff s).2 (.inl hg)
   simp[this]
  |some v=>
   by_cases hv:v=s
   ·subst hv
    have:=(h.iff v).2 (.inr hg)
    simp[this]
   ·have h1:=h.par s v hg
    have aN:v<s:=by omega
    simp only[Option.isSome_some,abt,aci,hv,abx,Bool.or_false,aaU,abb]
    show iter fuel (fun s=>cj n c s) v=_
    have qx:(c.filter fun q=>decide (q.1≤v)).length<(c.filter fun q=>decide (q.1≤s)).length:=by
     have J1:(c.filter fun q=>decide (q.1≤v))=(c.filter fun q=>decide (q.1≤s)).filter fun q=>decide (q.1≤v):=by
      rw[List.filter_filter]
      congr 1
      funext q
      rw[abG]
      simp only[aaT,abe];omega
     rw[J1]
     refine List.length_filter_lt_length_iff_exists.2 ⟨(s,v),abT.2 ⟨A' hg,by simp⟩,by simp;omega⟩
    rw[R8 h (k-1) fuel v (by omega) (by omega),h1.2]
theorem of_eq{n:Nat}{l:List ae}(hl:l.length<n)(x:Int):bT n (cls l) x=some (root l x):=by
 unfold bT
 rw[R8 (uf l) l.length n x (abE (adb _ _) (Q4 l)) hl];rfl
theorem EL{n:Nat}{l:List ae}(hl:l.length<n)(hM:l.length≤ML):eu n l=some (cls l):=by
 have q:iter n (fun s=>cD n l s.1 s.2) ((0:Int),[])=some (cls l):=by
  refine rL (fun j=>((j:Int),cls (l.take j))) l.length n _ (fun j hj=>?_) ?_ hl rfl
  ·have hx:l.take (j+1)=l.take j++[l[j]]:=by rw[acD];simp[hj]
   simp only[cD]
   rw[aa2 (by simp;omega),show ix l (j:Int)=some l[j] by simp[ix,hj],aaQ,hx,B6]
   unfold zh
   by_cases hk:l[j].ee=1
   ·rw[aa2 (by simpa using hk),of_eq (by simp;omega),aaQ,of_eq (by simp;omega),aaQ,aaQ,aaQ,cv hj hM,aa2 hk]
   ·rw[aa7 (by simpa using hk),aaQ,cv hj hM,aa7 hk]
  ·simp[cD]
 unfold eu
 rw[q];rfl
def oP(l:List ae)(S:Int→Prop):Prop:=∀ x∈l,x.ee=1→(S x.fA↔S x.fB)
theorem zi{l:List ae}{S:Int→Prop}:oP l S→∀ x,S x↔S (root l x):=by
 refine xp (p:=fun l=>oP l S→∀ x,S x↔S (root l x)) (fun _ x=>Iff.rfl) (fun l x ih h y=>?_) l
 have h1:=ih (fun z hz=>h z (acS _ hz))
 rw[yH]
 unfold re
 by_cases hk:x.ee=1
 rotate_left
 ·rw[aa7 hk];exact h1 y
 rw[aa2 hk]
 have h2:=h x (by simp) hk
 rw[h1 x.fA,h1 x.fB] at h2
 by_cases hy:root l y=max (root l x.fA) (root l x.fB)
 ·rw[aa2 hy,h1 y,hy]
  rcases Int.le_total (root l x.fA) (root l x.fB) with q|q
  ·rw[Int.max_eq_right q,Int.min_eq_left q];exact h2.symm
  ·rw[Int.max_eq_left q,Int.min_eq_right q];exact h2
 ·rw[aa7 hy];exact h1 y
theorem Ld{l:List ae}:∀ x∈l,x.ee=1→root l x.fA=root l x.fB:=by
 refine xp (p:=fun l=>∀ x∈l,x.ee=1→root l x.fA=root l x.fB) (fun x h=>by simp at h) (fun l x ih y hy hk=>?_) l
 rw[yH]
 unfold re
 rcases ab'.1 hy with hy|hy
 ·rw[ih y hy hk]
 ·obtain rfl:y=x:=by simpa using hy
  rw[aa2 hk,aa2 hk]
  rcases Int.le_total (root l y.fA) (root l y.fB) with q|q
  ·rw[Int.max_eq_right q,Int.min_eq_left q,aa2 rfl];split<;>omega
  ·rw[Int.max_eq_left q,Int.min_eq_right q,aa2 rfl];split<;>omega
theorem zj{l:List ae}{S:Int→Prop}(h:oP l S){x y:Int}(Mg:root l x=root l y):S x↔S y:=by
 rw[zi h x,zi h y,Mg]
end Go.Proofs.YtjdnbobilgamdaaGreatDoor.Ab.JN
end
section
namespace Go.Proofs.YtjdnbobilgamdaaGreatDoor.Ab.JN
open Go
theorem ET{α:Type}{l:List α}{j:Nat}(h:j<l.length):ix l (j:Int)=some l[j]:=by simp[ix,h]
theorem dA{α:Type}{l:List α}{j:Nat}(h:j<l.length):l.take (j+1)=l.take j++[l[j]]:=by
 rw[acD];simp[h]
def Xa(a:Int):Bool:=decide (1≤a)&&decide (a≤1000000000)
def zM(x:ae):Bool:=((((!decide (x.ee=1))&&(!decide (x.ee=2)))||(!Xa x.fA))||(!Xa x.fB))||decide (x.fA=x.fB)
def km(l:List ae):Bool:=decide ((l.length:Int)≤400)&&!l.any zM
theorem B7{n:Nat}{l:List ae}(hn:1000000<n):eR n l=some (km l):=by
 unfold eR km
 by_cases h:(l.length:Int)≤400
 ·have hb:bq n l (fun y1=>dY n y1)=some (l.any zM):=
   cK n l (fun y1=>dY n y1) zM (fun x _=>by
    simp only[dY,jM,zM,Xa]
    by_cases h1:x.ee=1<;>by_cases h2:x.ee=2<;>by_cases h3:(1:Int)≤x.fA<;>by_cases h4:x.fA≤1000000000<;>simp[h1,h2,h3,h4]) (by simp only[ML];omega) (by omega)
  rw[aa2 (abm h),hb];rfl
 ·rw[aa7 (by simpa using h),abF h];rfl
theorem zk{n:Nat}{l:List ae}(hl:l.length≤1000)(hn:1000000<n):kd n l=some (km l):=by
 have q:iter n (fun s=>eW n l s) 0=some (if gQ l.length (fun j=>zM (l.getD j default))=true then .inl false else .inr ()):=by
  refine fh (f:=fun s=>eW n l s) l.length n (fun j=>zM (l.getD j default)) (.inl false) (.inr ()) (fun j hj=>?_) (by simp[eW]) (by omega)
  simp only[eW]
  rw[aa2 (abm (by omega)),bz default hj,aaQ,cv hj (by simp only[ML];omega)]
  generalize l.getD j default=x
  have hb:((((((!decide (x.ee=(1:Int)))&&(!decide (x.ee=(2:Int))))||(decide (x.fA<(1:Int))))||(decide ((1000000000:Int)<x.fA)))||(decide (x.fB<(1:Int))))||(decide ((1000000000:Int)<x.fB))||(decide (x.fA=x.fB)))=zM x:=by
   rw[abG]
   simp[zM,Xa]
   omega
  rw[hb]
  cases zM x<;>rfl
 unfold kd km
 rw[q,jY l default zM]
 cases l.any zM<;>simp
theorem Lf{l:List ae}(h:km l=true):l.length≤400∧∀ x∈l,(x.ee=1∨x.ee=2)∧1≤x.fA∧x.fA≤1000000000∧1≤x.fB∧x.fB≤1000000000∧x.fA≠x.fB:=by
 unfold km at h
 simp only[aaT,abe,abC,List.any_eq_false] at h
 refine⟨by omega,fun x hx=>?_⟩
 have:=h.2 x hx
 simp[zM,Xa] at this
 omega
abbrev xq(l:List Int):Prop:=l.Pairwise (· < ·)
theorem GG{l k:List Int}(h1:xq l)(h2:xq k)(h:∀ y,y∈l↔y∈k):l=k:=I3 (lt:=fun a b:Int=>a<b) (by omega) (fun h h'=>by omega) h1 h2 h
theorem Iu{n:Nat}{l:List Int}{a:Int}(hl:l.length≤100000)(hn:1000000<n):kZ n l a=some (decide (a∈l)):=by
 have q:iter n (fun s=>gx n l a s) 0=some (if gQ l.length (fun j=>decide (l.getD j default=a))=true then .inl true else .inr ()):=by
  refine fh (f:=fun s=>gx n l a s) l.length n (fun j=>decide (l.getD j default=a)) (.inl true) (.inr ()) (fun j hj=>?_) (by simp[gx]) (by omega)
  simp only[gx]
  rw[aa2 (abm (by omega)),bz default hj,aaQ,cv hj (by simp only[ML];omega)]
  split<;>rfl
 unfold kZ
 rw[q,jY l default (fun y=>decide (y=a))]
 have:(l.any fun y=>decide (y=a))=decide (a∈l):=by
  rw[abG,acd,decide_eq_true_iff]
  exact⟨fun⟨x,h1,h2⟩=>by rw[←of_decide_eq_true h2];exact h1,fun h=>⟨a,h,by simp⟩⟩
 rw[this]
 by_cases h:a∈l<;>simp[h]
theorem sZ{n:Nat}{l:List Int}{a:Int}(hs:xq l)(hl:l.length≤100000)(hn:1000000<n):∃ r,je n l a=some r∧xq r∧(∀ y,y∈r↔y=a∨y∈l)∧r.length≤l.length+1:=by
 have ZW:l.takeWhile (fun y=>decide (y<a))++l.dropWhile (fun y=>decide (y<a))=l:=List.takeWhile_append_dropWhile
 have hp:∀ y∈l.takeWhile (fun y=>decide (y<a)),y<a:=fun y hy=>by simpa using abi.1 (List.all_takeWhile (p:=fun y=>decide (y<a)) (l:=l)) y hy
 have hq:∀ b q',l.dropWhile (fun y=>decide (y<a))=b::q'→¬b<a:=fun b q' e=>by
  have:=List.head?_dropWhile_not (fun y=>decide (y<a)) l
  rw[e] at this
  simpa using this
 generalize l.takeWhile (fun y=>decide (y<a))=p at *
 generalize l.dropWhile (fun y=>decide (y<a))=q at *
 subst ZW
 rw[aa9] at hl
 have hi:iter n (fun s=>gy n (p++q) a s) 0=some (p.length:Int):=by
  refine rL (f:=fun s=>gy n (p++q) a s) (fun j=>(j:Int)) p.length n _ (fun j hj=>?_) ?_ (by omega) rfl
  ·simp only[gy]
   have h1:(j:Int)<((p++q).length:Int):=by rw[aa9];omega
   have h2:ix (p++q) (j:Int)=some p[j]:=by rw[ET (by rw[aa9];omega)];simp[hj]
   rw[aa2 (abm h1),h2,aaQ,abm h1,abm (hp _ (acb hj)),cv hj (by simp only[ML];omega)]
   rfl
  ·simp only[gy]
   cases q with
   |nil=>simp
   |cons b q'=>
    have h1:(p.length:Int)<((p++b::q').length:Int):=by rw[aa9,abp];omega
    have h2:ix (p++b::q') (p.length:Int)=some b:=by rw[ET (by simp)];simp
    rw[aa2 (abm h1),h2,aaQ,abm h1,abF (hq b q' rfl)]
    rfl
 have PB:oR (p++q) 0 (p.length:Int)=some p:=by unfold oR;rw[aa2 (by rw[aa9];omega)];simp
 have YO:oR (p++q) (p.length:Int) ((p++q).length:Int)=some q:=by unfold oR;rw[aa2 (by rw[aa9];omega),aa8,aa8,abO];simp
 have aR:∀ v5:Int,(if decide ((p.length:Int)<((p++q).length:Int))=true then ix (p++q) (p.length:Int) else some default)=some v5→(decide ((p.length:Int)<((p++q).length:Int))&&decide (v5=a))=false→
   je n (p++q) a=some (p++a::q):=fun v5 h5 h6=>by
  unfold je
  rw[hi,aaQ,h5,aaQ,h6]
  simp only[aaU,abb]
  rw[PB,aaQ,YO,aaQ,qw (by simp;omega) (by simp;omega),aaQ,qw (by simp;omega) (by simp;omega)]
  rfl
 have SY:=(List.pairwise_append.1 hs)
 have R9:(∀ y∈q,a<y)→xq (p++a::q)∧(∀ y,y∈p++a::q↔y=a∨y∈p++q)∧(p++a::q).length≤(p++q).length+1:=fun Xb=>by
  refine⟨List.pairwise_append.2 ⟨SY.1,acf.2 ⟨Xb,SY.2.1⟩,fun x hx y hy=>?_⟩,fun y=>?_,by simp;omega⟩
  ·rcases abq.1 hy with rfl|hy
   ·exact hp x hx
   ·exact SY.2.2 x hx y hy
  ·simp only[ab',abq]
   exact or_left_comm
 cases q with
 |nil=>exact⟨_,aR default (by simp) (by simp),R9 (fun y hy=>by cases hy)⟩
 |cons b q'=>
  have h1:(p.length:Int)<((p++b::q').length:Int):=by rw[aa9,abp];omega
  have h2:ix (p++b::q') (p.length:Int)=some b:=by rw[ET (by simp)];simp
  have hb:=hq b q' rfl
  have hbq:=(acf.1 SY.2.1).1
  by_cases he:b=a
  ·subst he
   refine⟨p++b::q',?_,hs,fun y=>⟨fun h=>.inr h,fun h=>h.elim (fun h=>by simp[h]) id⟩,by omega⟩
   unfold je
   rw[hi,aaQ,aa2 (abm h1),h2,aaQ,abm h1]
   simp
  ·refine⟨_,aR b (by rw[aa2 (abm h1),h2]) (by simp[he]),R9 (fun y hy=>?_)⟩
   rcases abq.1 hy with rfl|hy
   ·omega
   ·have:=hbq y hy;omega
end Go.Proofs.YtjdnbobilgamdaaGreatDoor.Ab.JN
end
section
namespace Go.Proofs.YtjdnbobilgamdaaGreatDoor.Ab.JN
open Go
def Dq(x:ae):List Int:=if x.ee=1 then [x.fA,x.fB] else []
def ends(l:List ae):List Int:=l.flatMap Dq
theorem GH{l:List ae}{y:Int}:y∈ends l↔∃ x∈l,x.ee=1∧(y=x.fA∨y=x.fB):=by
 unfold ends Dq
 simp only[List.mem_flatMap]
 constructor
 ·rintro⟨x,hx,h⟩
  split at h
  ·rename_i hk;exact⟨x,hx,hk,by simpa using h⟩
  ·cases h
 ·rintro⟨x,hx,hk,h⟩
  exact⟨x,hx,by rw[aa2 hk];simpa using h⟩
theorem xr(l:List ae):(ends l).length≤2*l.length:=by
 unfold ends
 induction l with
 |nil=>simp
 |cons x l ih=>
  rw[acV,aa9,abp]
  have:(Dq x).length≤2:=by unfold Dq;split<;>simp
  omega
def tm(l:List ae):List Int:=dJ (rV n_ (ends l))
theorem Ot(l:List ae):xq (tm l):=by
 refine CU (lt:=fun a b:Int=>a<b) (fun _ _ _ h h'=>by omega) (fun _ _ h=>by omega) ?_
 have:=ru CR (ends l)
 refine this.imp (fun{a b} h=>?_)
 simpa[n_] using h
theorem B8{l:List ae}{y:Int}:y∈tm l↔y∈ends l:=by
 unfold tm
 rw[xT,(rq _ _).mem_iff]
theorem GI(l:List ae):(tm l).length≤2*l.length:=by
 have h1:=xS (rV n_ (ends l))
 rw[tF] at h1
 have:=xr l
 unfold tm;omega
theorem GJ{n:Nat}{c:List Int}(h:c.length≤1000000)(hn:1000000<n):cN n c=some (dJ c):=by
 have h2:∀ s2,c_ n c s2=HJ n 0 c s2:=fun s2=>by
  unfold c_ HJ;rfl
 have:cN n c=XK n 0 c:=by
  unfold cN XK
  simp only[h2]
  cases iter n (fun s=>HJ n 0 c s) 1 with
  |none=>rfl
  |some r=>cases r<;>rfl
 rw[this,S9 (by simp only[ML];omega) (by omega)]
theorem Iv{n:Nat}{l:List ae}(hl:l.length≤1000)(hn:1000000<n):fj n l=some (tm l):=by
 have q:iter n (fun s=>cn n l s.1 s.2) ((0:Int),[])=some (ends l):=by
  refine rL (f:=fun s=>cn n l s.1 s.2) (fun j=>((j:Int),ends (l.take j))) l.length n _ (fun j hj=>?_) ?_ (by omega) rfl
  ·have e:ends (l.take (j+1))=ends (l.take j)++Dq l[j]:=by unfold ends;rw[dA hj,adR,List.flatMap_singleton]
   have e2:=xr (l.take j)
   rw[abI] at e2
   simp only[cn]
   rw[aa2 (abm (by omega)),ET hj,aaQ,cv hj (by simp only[ML];omega),e]
   unfold Dq
   by_cases hk:l[j].ee=1
   ·rw[aa2 (abm hk),aa2 hk,qw (by simp;omega) (by simp;omega)];rfl
   ·rw[aa7 (by simpa using hk),aa7 hk];simp
  ·simp[cn]
 have hs:cZ n (ends l)=some (rV n_ (ends l)):=by
  have:=xr l
  unfold cZ;rw[aa2 (by omega)]
 unfold fj
 rw[q,aaQ,hs,aaQ,GJ (by rw[tF];have:=xr l;omega) hn]
 rfl
theorem EM{l:List ae}{a:Int}(h:a∉ends l):oP l fun y=>y=a:=fun x hx hk=>by
 constructor
 ·intro e;exact absurd (GH.2 ⟨x,hx,hk,.inl e.symm⟩) h
 ·intro e;exact absurd (GH.2 ⟨x,hx,hk,.inr e.symm⟩) h
theorem vN{l:List ae}{a y:Int}(h:a∉ends l)(e:root l y=root l a):y=a:=(zj (EM h) e).2 rfl
def GY(l:List ae)(a:Int):List Int:=if a∈tm l then (tm l).filter fun y=>decide (root l y=root l a) else [a]
theorem JO{l:List ae}{a y:Int}:y∈GY l a↔root l y=root l a:=by
 unfold GY
 by_cases h:a∈tm l
 ·rw[aa2 h,abT,abe]
  refine⟨fun h=>h.2,fun e=>⟨?_,e⟩⟩
  by_cases hy:y∈tm l
  ·exact hy
  ·rw[vN (fun h=>hy (B8.2 h)) e.symm] at h
   exact absurd h hy
 ·rw[aa7 h,ab0]
  exact⟨fun e=>by rw[e],fun e=>vN (fun h2=>h (B8.2 h2)) e⟩
theorem JP(l:List ae)(a:Int):xq (GY l a):=by
 unfold GY
 split
 ·exact(Ot l).filter _
 ·exact List.pairwise_singleton _ _
theorem JQ(l:List ae)(a:Int):(GY l a).length≤2*l.length+1:=by
 unfold GY
 have:=GI l
 split
 ·have:=adb (fun y=>decide (root l y=root l a)) (tm l);omega
 ·simp
structure Q5(l:List ae)(a:Int)(s:List Int):Prop where
 A_:xq s
 mem:a∈s
 sub:∀ y∈s,root l y=root l a
theorem zl{s t:List Int}(h:xq s)(ht:xq t)(hs:∀ y∈s,y∈t):s=t.filter fun y=>decide (y∈s):=
 GG h (ht.filter _) fun y=>by
  rw[abT,abe]
  exact⟨fun h=>⟨hs y h,h⟩,fun h=>h.2⟩
theorem EN{s t:List Int}(h:xq s)(ht:xq t)(hs:∀ y∈s,y∈t):s.length≤t.length:=by
 have:=adg List.length (zl h ht hs)
 have:=adb (fun y=>decide (y∈s)) t
 omega
theorem GK{s t:List Int}(h:xq s)(ht:xq t)(hs:∀ y∈s,y∈t)(hl:t.length≤s.length):∀ y∈t,y∈s:=by
 have h1:=adg List.length (zl h ht hs)
 have h2:=adb (fun y=>decide (y∈s)) t
 have:=List.length_filter_eq_length_iff.1 (show(t.filter fun y=>decide (y∈s)).length=t.length by omega)
 exact fun y hy=>acC (this y hy)
theorem Q5.len{l:List ae}{a:Int}{s:List Int}(h:Q5 l a s):s.length≤2*l.length+1:=
 abE (EN h.A_ (JP l a) fun y hy=>JO.2 (h.sub y hy)) (JQ l a)
theorem Iw{n:Nat}{l:List ae}{a:Int}{s:List Int}(hl:l.length≤1000)(hn:1000000<n)(h:Q5 l a s):
  ∃ t b,iter n (fun s=>d_ n l s.1 s.2.1 s.2.2) (s,false,(0:Int))=some (t,b)∧Q5 l a t∧((b=true∧s.length<t.length)∨(b=false∧t=s∧oP l fun y=>y∈s)):=by
 have key:∀ (k j fuel:Nat) (t:List Int) (b:Bool),j+k=l.length→k<fuel→Q5 l a t→((b=true∧s.length<t.length)∨(b=false∧t=s∧oP (l.take j) fun y=>y∈s))→
   ∃ t' b',iter fuel (fun s=>d_ n l s.1 s.2.1 s.2.2) (t,b,(j:Int))=some (t',b')∧Q5 l a t'∧((b'=true∧s.length<t'.length)∨(b'=false∧t'=s∧oP l fun y=>y∈s)):=by
  intro k
  induction k with
  |zero=>
   intro j fuel t b hj hf hI hc
   obtain⟨f,rfl⟩:∃ f,fuel=f+1:=⟨fuel-1,by omega⟩
   have ph:j=l.length:=by omega
   subst ph
   refine⟨t,b,?_,hI,by rwa[abO] at hc⟩
   rw[iter];simp[d_]
  |succ k ih=>
   intro j fuel t b hj hf hI hc
   obtain⟨f,rfl⟩:∃ f,fuel=f+1:=⟨fuel-1,by omega⟩
   have Ci:j<l.length:=by omega
   have hlen:=hI.len
   rw[iter]
   have Mc:∃ t' b',d_ n l t b (j:Int)=some (.inl (t',b',((j+1:Nat):Int)))∧Q5 l a t'∧((b'=true∧s.length<t'.length)∨(b'=false∧t'=s∧oP (l.take (j+1)) fun y=>y∈s)):=by
    simp only[d_]
    rw[aa2 (abm (by omega)),ET Ci,aaQ,cv Ci (by simp only[ML];omega)]
    have mG:l[j]∈l:=acb Ci
    have oQ:∀ S:Int→Prop,oP (l.take j) S→(l[j].ee=1→(S l[j].fA↔S l[j].fB))→oP (l.take (j+1)) S:=fun S h1 h2 x hx hk=>by
     rw[dA Ci] at hx
     rcases ab'.1 hx with hx|hx
     ·exact h1 x hx hk
     ·obtain rfl:x=l[j]:=by simpa using hx
      exact h2 hk
    generalize l[j]=x at *
    by_cases hk:x.ee=1
    ·simp only[abm hk,abh,aaQ,ab1]
     rw[Iu (by omega) hn,aaQ,Iu (by omega) hn,aaQ]
     have R_:=Ld x mG hk
     by_cases O6:decide (x.fA∈t)=decide (x.fB∈t)
     ·rw[aa7 (by simp[O6])]
      refine⟨t,b,rfl,hI,hc.imp id fun⟨h1,h2,h3⟩=>⟨h1,h2,oQ _ h3 fun _=>?_⟩⟩
      rw[←h2]
      exact abH.1 O6
     ·rw[aa2 (by simpa using O6)]
      obtain⟨t1,p1,p2,p3,p4⟩:=sZ (n:=n) (a:=x.fA) hI.A_ (by omega) hn
      obtain⟨t2,q1,q2,q3,q4⟩:=sZ (n:=n) (a:=x.fB) p2 (by omega) hn
      rw[p1,aaQ,q1,aaQ]
      have hr:root l x.fA=root l a:=by
       by_cases hA:x.fA∈t
       ·exact hI.sub _ hA
       ·have hB:x.fB∈t:=by
         by_cases hB:x.fB∈t
         ·exact hB
         ·simp[hA,hB] at O6
        rw[R_];exact hI.sub _ hB
      have GL:∀ y,y∈t2↔y=x.fB∨y=x.fA∨y∈t:=fun y=>by rw[q3,p3]
      have gr:Q5 l a t2:=⟨q2,(GL a).2 (.inr (.inr hI.mem)),fun y hy=>by
       rcases(GL y).1 hy with rfl|rfl|hy
       ·rw[←R_];exact hr
       ·exact hr
       ·exact hI.sub y hy⟩
      have aN:t.length<t2.length:=by
       have h1:∀ y∈t,y∈t2:=fun y hy=>(GL y).2 (.inr (.inr hy))
       rcases ab8 t.length t2.length with h|h
       ·exact h
       ·have J1:∀ y∈t2,y∈t:=by
         exact GK hI.A_ q2 h1 h
        have hA:=J1 _ ((GL x.fA).2 (.inr (.inl rfl)))
        have hB:=J1 _ ((GL x.fB).2 (.inl rfl))
        simp[hA,hB] at O6
      refine⟨t2,true,rfl,gr,.inl ⟨rfl,?_⟩⟩
      rcases hc with ⟨_,h⟩|⟨_,h,_⟩
      ·omega
      ·rw[←h];exact aN
    ·have hd:decide (x.ee=1)=false:=abF hk
     simp only[hd,aaU,abb,aaQ,adq]
     exact⟨t,b,rfl,hI,hc.imp id fun⟨h1,h2,h3⟩=>⟨h1,h2,oQ _ h3 fun h=>absurd h hk⟩⟩
   obtain⟨t',b',e,h1,h2⟩:=Mc
   rw[e]
   exact ih (j+1) f t' b' (by omega) (by omega) h1 h2
 exact key l.length 0 n s false (by omega) (by omega) h (.inr ⟨rfl,rfl,fun x hx=>by simp at hx⟩)
theorem GM{n:Nat}{l:List ae}{a:Int}(hl:l.length≤1000)(hn:1000000<n):l8 n l a=some (GY l a):=by
 have key:∀ (k fuel:Nat) (s:List Int) (b:Bool),2*l.length+2≤s.length+k→k+1<fuel→Q5 l a s→(b=false→oP l fun y=>y∈s)→
   iter fuel (fun s=>dZ n l s.1 s.2) (s,b)=some (GY l a):=by
  intro k
  induction k with
  |zero=>intro fuel s b h1 _ hI _;have:=hI.len;omega
  |succ k ih=>
   intro fuel s b h1 hf hI hc
   obtain⟨f,rfl⟩:∃ f,fuel=f+1:=⟨fuel-1,by omega⟩
   have Xc:(oP l fun y=>y∈s)→s=GY l a:=fun oQ=>GG hI.A_ (JP l a) fun y=>by
    rw[JO]
    exact⟨hI.sub y,fun e=>(zj oQ e).2 hI.mem⟩
   rw[iter]
   cases b with
   |false=>
    rw[Xc (hc rfl)]
    simp[dZ]
   |true=>
    obtain⟨t,b',e,h2,h3⟩:=Iw hl hn hI
    simp only[dZ,abh]
    rw[e,aaQ]
    rcases h3 with ⟨rfl,h3⟩|⟨rfl,rfl,h3⟩
    ·exact ih f t true (by omega) (by omega) h2 (fun h=>by cases h)
    ·obtain⟨f',rfl⟩:∃ f',f=f'+1:=⟨f-1,by omega⟩
     show iter (f'+1) (fun s=>dZ n l s.1 s.2) (t,false)=_
     rw[iter]
     rw[Xc h3]
     simp[dZ]
 unfold l8
 rw[key (2*l.length+2) n [a] true (by simp) (by omega) ⟨List.pairwise_singleton _ _,by simp,fun y hy=>by simp at hy;rw[hy]⟩ (fun h=>by cases h)]
 rfl
end Go.Proofs.YtjdnbobilgamdaaGreatDoor.Ab.JN
end
section
namespace Go.Proofs.YtjdnbobilgamdaaGreatDoor.Ab.JN
open Go
theorem Ou{n:Nat}{c:List Int}{c2:List (Int×Int)}{c3:Int}{p:Int→Bool}(hp:∀ y,cC n y c2 c3=some (p y))(hl:c.length≤100000)(hn:1000000<n):
  (∃ i,i<c.length∧cq n c c2 c3=some (i:Int)∧p (c.getD i 0)=true∧∀ j,j<i→p (c.getD j 0)=false)∨(cq n c c2 c3=some (-1)∧∀ j,j<c.length→p (c.getD j 0)=false):=by
 unfold cq
 rcases lk (f:=fun s=>bU n c c2 c3 s) c.length (fun j=>p (c.getD j 0)) (fun i=>.inl (i:Int)) (.inr ()) c.length 0 n 0 (by omega) (fun j hj=>by
   simp only[bU]
   rw[aa2 (abm (by omega)),bz 0 hj,aaQ,aaQ,hp,aaQ,cv hj (by simp only[ML];omega)]
   split<;>rfl) (by simp[bU]) (by omega) rfl with ⟨i,_,h2,h3,h4,h5⟩|⟨h1,h2⟩
 ·rw[h5];exact .inl ⟨i,h2,rfl,h3,fun j hj=>h4 j (by omega) hj⟩
 ·rw[h2];exact .inr ⟨rfl,fun j hj=>h1 j (by omega) hj⟩
theorem del_eq{n:Nat}{c:List Int}{c2:List (Int×Int)}{c3:Int}{p:Int→Bool}(hp:∀ y,cC n y c2 c3=some (p y))(hl:c.length≤100000)(hn:1000000<n):
  de n c c2 c3=some (c.filter fun y=>!p y):=by
 unfold de
 have Af:∀ j (h:j<c.length),c.getD j 0=c[j]:=fun j h=>by simp[h]
 rcases Ou hp hl hn with ⟨i,h1,h2,hpi,h3⟩|⟨h2,h3⟩
 rotate_left
 ·rw[h2,aaQ,aa2 (by decide)]
  congr 1
  refine(List.filter_eq_self.2 fun y hy=>?_).symm
  obtain⟨j,hj,rfl⟩:=acn hy
  rw[←Af j hj,h3 j hj];rfl
 rw[h2,aaQ,aa7 (by simp),cv h1 (by simp only[ML];omega)]
 have key:∀ (k j fuel a:Nat) (s:List Int),j+k=c.length→k<fuel→a≤j→s.length=c.length→s.take a=(c.take j).filter (fun y=>!p y)→s.drop j=c.drop j→
   ∃ a' s',iter fuel (fun s=>bQ n c2 c3 s.1 s.2.1 s.2.2) ((a:Int),(j:Int),s)=some (((a':Nat):Int),s')∧a'≤c.length∧s'.length=c.length∧s'.take a'=c.filter fun y=>!p y:=by
  intro k
  induction k with
  |zero=>
   intro j fuel a s hj hf ha hs ht hd
   obtain⟨f,rfl⟩:∃ f,fuel=f+1:=⟨fuel-1,by omega⟩
   obtain rfl:j=c.length:=by omega
   refine⟨a,s,?_,ha,hs,by rwa[abO] at ht⟩
   rw[iter];simp[bQ,hs]
  |succ k ih=>
   intro j fuel a s hj hf ha hs ht hd
   obtain⟨f,rfl⟩:∃ f,fuel=f+1:=⟨fuel-1,by omega⟩
   have Ci:j<c.length:=by omega
   have hsj:s[j]'(by omega)=c[j]:=by
    have:=adg (fun l:List Int=>l[0]?) hd
    simpa[hs,Ci] using this
   have Sa:s.drop (j+1)=c.drop (j+1):=by
    have:=adg (List.drop 1) hd
    rwa[adp,adp] at this
   have hff:(c.take (j+1)).filter (fun y=>!p y)=(c.take j).filter (fun y=>!p y)++if p c[j]=true then [] else [c[j]]:=by
    rw[dA Ci,ad0]
    congr 1
    cases ZW:p c[j]<;>simp[ZW]
   rw[iter]
   simp only[bQ]
   rw[aa2 (abm (by omega)),ET (by omega),aaQ,aaQ,hsj,hp,aaQ,cv Ci (by simp only[ML];omega)]
   cases hpc:p c[j] with
   |true=>
    simp only[abt,aaU,abb,aaQ]
    refine ih (j+1) f a s (by omega) (by omega) (by omega) hs ?_ Sa
    rw[hff,aa2 hpc,acz,ht]
   |false=>
    simp only[abw,abh]
    rw[ET (show a<s.length by omega),aaQ,show ku s (a:Int) c[j]=some (s.set a c[j]) by unfold ku;rw[aa2 ⟨by omega,by simp;omega⟩];simp,aaQ,cv (show a<c.length by omega) (by simp only[ML];omega)]
    simp only[aaQ]
    refine ih (j+1) f (a+1) (s.set a c[j]) (by omega) (by omega) (by omega) (by simp[hs]) ?_ ?_
    ·rw[hff,hpc]
     simp only[aaU,abb]
     rw[dA (by simp;omega),List.getElem_set_self,List.take_set_of_le (aaZ a),ht]
    ·rw[List.drop_set_of_lt (by omega),Sa]
 obtain⟨a',s',e,q1,q2,q3⟩:=key (c.length-(i+1)) (i+1) n i c (by omega) (by omega) (by omega) rfl (by
  rw[dA h1,ad0,List.filter_eq_self.2 (fun y hy=>by
   obtain⟨j,hj,rfl⟩:=acn hy
   rw[abI] at hj
   have:=h3 j (by omega)
   rw[Af j (by omega)] at this
   simp[this])]
  rw[Af i h1] at hpi
  simp[hpi]) rfl
 rw[e,aaQ,show oR s' (a':Int) (s'.length:Int)=some (s'.drop a') by unfold oR;rw[aa2 (by omega)];simp,aaQ]
 have oQ:(ql s' a' (s'.drop a').length 0).take a'=s'.take a':=by
  unfold ql
  rw[abk,List.take_append_of_le_length (by simp;omega),aet,Nat.min_self]
 have hle:a'≤(ql s' a' (s'.drop a').length 0).length:=by
  rw[sy (by simp;omega)];omega
 rw[aa8,show oR (ql s' a' (s'.drop a').length 0) 0 (a':Int)=some (s'.take a') by unfold oR;rw[aa2 (by omega),aa8,oQ];rfl,q3]
 rfl
theorem Lg{n:Nat}{l:List ae}(hl:l.length≤1000)(hn:1000000<n)(y a:Int):cC n y (cls l) a=some (!decide (root l y=root l a)):=by
 unfold cC
 rw[of_eq (by omega),aaQ,of_eq (by omega)];rfl
theorem Ov{n:Nat}{l:List ae}{a:Int}(hv:km l=true)(hn:1000000<n):du n l a=some (GY l a,0):=by
 have hl:=(Lf hv).1
 have hr:=GI l
 unfold du
 rw[B7 hn,aaQ,hv,aa7 (by decide),EL (by omega) (by simp only[ML];omega),aaQ,Iv (by omega) hn,aaQ,del_eq (p:=fun y=>!decide (root l y=root l a)) (fun y=>Lg (by omega) hn y a) (by omega) hn,aaQ]
 have he:((tm l).filter fun y=>!(!decide (root l y=root l a)))=(tm l).filter fun y=>decide (root l y=root l a):=by simp
 rw[he]
 unfold GY
 by_cases h:a∈tm l
 ·rw[aa2 h]
  have aR:((tm l).filter fun y=>decide (root l y=root l a))≠[]:=fun h0=>by
   have:a∈(tm l).filter fun y=>decide (root l y=root l a):=abT.2 ⟨h,by simp⟩
   rw[h0] at this;cases this
  have:=abA.2 aR
  rw[aa7 (by simp only[abe];omega)]
  rfl
 ·rw[aa7 h]
  have h0:((tm l).filter fun y=>decide (root l y=root l a))=[]:=ac6.2 fun y hy=>by
   rw[abe]
   intro e
   have:=vN (fun h2=>h (B8.2 h2)) e
   rw[this] at hy;exact h hy
  rw[h0];rfl
theorem Lh{n:Nat}{l:List ae}{a:Int}(hv:km l=false)(hn:1000000<n):du n l a=some ([],1):=by
 unfold du
 rw[B7 hn,aaQ,hv];rfl
theorem GN{n:Nat}{l:List ae}{a:Int}(hl:l.length≤1000)(hn:1000000<n):l9 n l a=some (if km l=true then (GY l a,0) else ([],1)):=by
 unfold l9
 rw[zk hl hn,aaQ,GM hl hn]
 cases km l<;>rfl
theorem Ow{n:Nat}{l:List ae}{a:Int}(hn:1000000<n):du n l a=some (if km l=true then (GY l a,0) else ([],1)):=by
 cases hv:km l with
 |true=>rw[Ov hv hn];rfl
 |false=>rw[Lh hv hn];rfl
end Go.Proofs.YtjdnbobilgamdaaGreatDoor.Ab.JN
end
section
namespace Go.Proofs.YtjdnbobilgamdaaGreatDoor.Ab.um
open Go
theorem Ur{s:List UInt8}{p:Int→Bool}:gQ s.length (fun i=>p ((s.getD i 0).toNat:Int))=s.any fun c=>p (c.toNat:Int):=jY s 0 (fun c=>p (c.toNat:Int))
theorem Q6{n:Nat}{s:List UInt8}{k:Nat}{lo hi:Int}(hl:s.length≤ML)(hn:s.length<n):ju n s (k:Int) lo hi=some (CW s k lo hi):=by
 unfold ju
 rw[fh (ρ:=Bool⊕Unit) s.length n (fun i=>(fun c:Int=>decide (c<lo)||decide (hi<c)) ((s.getD i 0).toNat:Int)) (.inl false) (.inr ()) (fun j hj=>by
  unfold jO
  rw[aa2 (by simp;omega),tK hj,cv hj hl]
  generalize ((s.getD j 0).toNat:Int)=c
  simp only[aaQ]
  by_cases h:c<lo
  ·simp[h]
  ·by_cases h2:hi<c<;>simp[h,h2]) (by unfold jO;simp) hn]
 have e:gQ s.length (fun i=>(fun c:Int=>decide (c<lo)||decide (hi<c)) ((s.getD i 0).toNat:Int))=!HO s lo hi:=by
  have:=Ur (s:=s) (p:=fun c:Int=>decide (c<lo)||decide (hi<c))
  rw[this]
  unfold HO
  rw[acs]
  congr 1
  funext c
  rw[abG];simp<;>omega
 rw[e]
 unfold CW
 have e2:decide ((s.length:Int)=(k:Int))=decide (s.length=k):=by rw[abH];omega
 rw[←e2]
 cases HO s lo hi<;>simp
theorem Oy{n:Nat}{s:List UInt8}(hl:s.length≤ML)(hn:s.length<n):ns n s=some (zV s):=by
 unfold ns
 rw[fh (ρ:=Bool⊕Unit) s.length n (fun i=>(fun c:Int=>decide (c≤32)) ((s.getD i 0).toNat:Int)) (.inl false) (.inr ()) (fun j hj=>by
  unfold jP
  rw[aa2 (by simp;omega),tK hj,cv hj hl,aaQ]
  split<;>rfl) (by unfold jP;simp) hn]
 have e:gQ s.length (fun i=>(fun c:Int=>decide (c≤32)) ((s.getD i 0).toNat:Int))=!HO s 33 255:=by
  have:=Ur (s:=s) (p:=fun c:Int=>decide (c≤32))
  rw[this]
  unfold HO
  rw[acs]
  congr 1
  funext c
  have:=c.toNat_lt
  rw[abG];simp<;>omega
 rw[e]
 unfold zV
 have e1:decide ((1:Int)≤(s.length:Int))=decide (1≤s.length):=by rw[abH];omega
 have e2:decide ((s.length:Int)≤400)=decide (s.length≤400):=by rw[abH];omega
 rw[e1,e2]
 cases HO s 33 255<;>simp
theorem B9{l:List (List UInt8)}(h:RG l):ia FU l=some (decide (l.length≤200)&&l.all zV):=by
 have lt:∀ {k:Nat},k≤ML→k<FU:=fun hk=>ab_ hk (by decide)
 unfold ia
 rw[fh (ρ:=Bool⊕Unit) l.length FU (fun i=>!zV (l.getD i [])) (.inl false) (.inr ()) (fun j hj=>by
  unfold iS
  have hm:l.getD j []∈l:=by simp[hj]
  rw[aa2 (by simp;omega),bz [] hj,aaQ,Oy (h.2 _ hm) (lt (h.2 _ hm)),cv hj h.1,aaQ]
  split<;>rfl) (by unfold iS;simp) (lt h.1)]
 rw[jY l [] (fun x=>!zV x),←List.not_all_eq_any_not]
 have e2:decide ((l.length:Int)≤200)=decide (l.length≤200):=by rw[abH];omega
 rw[←e2]
 cases l.all zV<;>simp
theorem Us{s:List UInt8}(hl:s.length≤ML):oD FU s=some (UJ s):=by
 have lt:∀ {k:Nat},k≤ML→k<FU:=fun hk=>ab_ hk (by decide)
 unfold oD
 rw[fh (ρ:=Bool⊕Unit) s.length FU (fun i=>(fun c:Int=>decide (c<32)) ((s.getD i 0).toNat:Int)) (.inl false) (.inr ()) (fun j hj=>by
  unfold kY
  rw[aa2 (by simp;omega),tK hj,cv hj hl,aaQ]
  split<;>rfl) (by unfold kY;simp) (lt hl)]
 have e:gQ s.length (fun i=>(fun c:Int=>decide (c<32)) ((s.getD i 0).toNat:Int))=!HO s 32 255:=by
  have:=Ur (s:=s) (p:=fun c:Int=>decide (c<32))
  rw[this]
  unfold HO
  rw[acs]
  congr 1
  funext c
  have:=c.toNat_lt
  rw[abG];simp<;>omega
 rw[e]
 unfold UJ
 have e2:decide ((s.length:Int)≤420)=decide (s.length≤420):=by rw[abH];omega
 rw[e2]
 cases HO s 32 255 with
 |false=>simp
 |true=>
  simp only[abt,aaU,abb,aaQ,adB]
  by_cases h5:s=[]
  ·subst h5;simp
  ·have h6:=abA.2 h5
   have g0:EY s 0=some ((s.getD 0 0).toNat:Int):=tK (i:=0) h6
   have q1:decide (((s.getD 0 0).toNat:Int)=32)=decide (s.getD 0 0=32):=by rw[abH];exact I8
   have q2:decide (((s.getD (s.length-1) 0).toNat:Int)=32)=decide (s.getD (s.length-1) 0=32):=by rw[abH];exact I8
   rw[g0,FE h5 hl,abF h5]
   cases decide (s.length≤420) with
   |false=>simp
   |true=>
    simp only[abw,ac0,abh,aaQ,ab1,q1,ab5]
    generalize decide (s.getD 0 0=32)=k1
    cases k1
    ·simp only[abw,abh,aaQ,q2]
    ·simp
theorem EO{l:List (List UInt8)}(hl:l.length≤ML):dH FU l=some (A_ l):=by
 unfold dH
 have he:bL FU l (l.length:Int)=some (.inr (.inr ())):=by unfold bL;simp
 cases hc:l with
 |nil=>decide+kernel
 |cons x r=>
  rw[←hc]
  have h1:1≤l.length:=by rw[hc];simp
  have key:=lk (ρ:=Bool⊕Unit) (f:=fun s=>if s=0 then some (.inl 1) else bL FU l s) l.length (fun i=>decide (0<i)&&!Lw (l.getD (i-1) []) (l.getD i [])) (fun _=>.inl false) (.inr ()) (l.length-1) 1 FU 1 (by omega) (fun j hj=>by
   by_cases h0:j=0
   ·subst h0;simp
   ·have h0':0<j:=by omega
    rw[aa7 (by omega)]
    unfold bL
    rw[aa2 (by simp;omega),FA h0' (by omega),bz [] (by omega),aaQ,bz [] hj,aaQ,cv hj hl]
    simp only[h0',abo,ab1]
    split<;>rfl) (by rw[aa7 (by omega)];exact he) (by simp only[FU,ML] at *;omega) rfl
  have same:∀ (n:Nat) (s:Int),0<s→s≤l.length→iter n (fun s=>if s=0 then some (.inl 1) else bL FU l s) s=iter n (fun s=>bL FU l s) s:=by
   intro n
   induction n with
   |zero=>intro s _ _;rfl
   |succ n ih=>
    intro s h0 h2
    rw[iter,iter,aa7 (by omega)]
    unfold bL
    by_cases aN:s<l.length
    ·rw[aa2 (by simpa using aN),Bc [] (show 0≤IntKind.i64.wrap (s-1) by rw[jT (by omega) (by simp only[ML] at hl;omega)];omega) (by rw[jT (by omega) (by simp only[ML] at hl;omega)];omega),aaQ,Bc [] (by omega) aN,aaQ]
     split
     ·rfl
     ·simp only[aaQ]
      rw[jT (by omega) (by simp only[ML] at hl;omega)]
      exact ih (s+1) (by omega) (by omega)
    ·rw[aa7 (by simpa using aN)]
     rfl
  rw[same FU 1 (by omega) (by omega)] at key
  unfold A_
  rcases key with ⟨i,_,h2,h3,_,h5⟩|⟨h3,h5⟩
  ·rw[h5,mW.2 ⟨i,h2,h3⟩];rfl
  ·rw[h5,uZ.2 (fun i hi=>by
    by_cases h0:i=0
    ·subst h0;simp
    ·exact h3 i (by omega) hi)];rfl
theorem GO{f:af}(hl:f.ba.length≤ML):iter FU (fun s=>f_ FU f s) (0:Int)=some (if RF f.ba=true then .inr () else .inl false):=by
 have lt:∀ {k:Nat},k≤ML→k<FU:=fun hk=>ab_ hk (by decide)
 rw[fh (ρ:=Bool⊕Unit) f.ba.length FU (fun i=>!(decide (1000≤f.ba.getD i 0)&&decide (f.ba.getD i 0≤2999))||decide (0<i)&&decide (f.ba.getD i 0≤f.ba.getD (i-1) 0)) (.inl false) (.inr ()) (fun j hj=>by
  unfold f_
  rw[aa2 (by simp;omega),bz 0 hj,cv hj hl]
  simp only[aaQ]
  generalize hx:f.ba.getD j 0=x
  by_cases q1:x<1000
  ·simp[q1,show ¬1000≤x by omega]
  ·by_cases q2:2999<x
   ·simp[q1,q2,show ¬x≤2999 by omega]
   ·by_cases h0:0<j
    ·rw[FA h0 (by omega),bz 0 (show j-1<f.ba.length by omega)]
     generalize f.ba.getD (j-1) 0=y
     simp[q1,q2,h0,show 1000≤x by omega,show x≤2999 by omega]
     split<;>rfl
    ·have Pf:¬(0:Int)<(j:Int):=by omega
     simp[q1,q2,h0,Pf,show 1000≤x by omega,show x≤2999 by omega]) (by unfold f_;simp) (lt hl)]
 unfold RF
 cases gQ f.ba.length (fun i=>!(decide (1000≤f.ba.getD i 0)&&decide (f.ba.getD i 0≤2999))||decide (0<i)&&decide (f.ba.getD i 0≤f.ba.getD (i-1) 0))<;>rfl
theorem Ds{l:List (List UInt8)}{k:Nat}{lo hi:Int}{g:Int→Option (Int⊕(Bool⊕Unit))}(h:RG l)(hg:∀ s,g s=if (decide (s<(l.length:Int)))=true then (ix l s).bind fun v6=>(ju FU v6 (k:Int) lo hi).bind fun v7=>if (!v7)=true then some (.inr (.inl false)) else some (.inl (IntKind.i64.wrap (s+(1:Int)))) else some (.inr (.inr ()))):
  iter FU g (0:Int)=some (if l.all (CW · k lo hi)=true then .inr () else .inl false):=by
 have lt:∀ {k:Nat},k≤ML→k<FU:=fun hk=>ab_ hk (by decide)
 rw[fh (ρ:=Bool⊕Unit) l.length FU (fun i=>!CW (l.getD i []) k lo hi) (.inl false) (.inr ()) (fun j hj=>by
  have hm:l.getD j []∈l:=by simp[hj]
  rw[hg,aa2 (by simp;omega),bz [] hj,aaQ,Q6 (h.2 _ hm) (lt (h.2 _ hm)),cv hj h.1,aaQ]
  split<;>rfl) (by rw[hg];simp) (lt h.1),jY l [] (fun x=>!CW x k lo hi),←List.not_all_eq_any_not]
 cases l.all (CW · k lo hi)<;>rfl
theorem EP{f:af}(h:I7 f):ib FU f=some (fv f):=by
 have e2:iter FU (fun s=>lD FU f s) (0:Int)=some (if f.bN.all (CW · 13 48 57)=true then .inr () else .inl false):=Ds (k:=13) (lo:=48) (hi:=57) h.i (fun s=>rfl)
 have e3:iter FU (fun s=>lE FU f s) (0:Int)=some (if f.bO.all (CW · 3 97 122)=true then .inr () else .inl false):=Ds (k:=3) (lo:=97) (hi:=122) h.l (fun s=>rfl)
 unfold ib
 rw[GO h.y,e2,e3,B9 h.t,B9 h.p,B9 h.e,Us h.a,EO h.i.1,EO h.l.1,EO h.p.1,EO h.e.1]
 have c1:decide (f.nU<1)=!decide (1≤f.nU):=by rw[←decide_not,abH];omega
 have c2:decide (1000000000<f.nU)=!decide (f.nU≤1000000000):=by rw[←decide_not,abH];omega
 have c3:decide ((20:Int)<(f.ba.length:Int))=!decide (f.ba.length≤20):=by rw[←decide_not,abH];omega
 have c4:decide ((20:Int)<(f.bN.length:Int))=!decide (f.bN.length≤20):=by rw[←decide_not,abH];omega
 have c5:decide ((20:Int)<(f.bO.length:Int))=!decide (f.bO.length≤20):=by rw[←decide_not,abH];omega
 rw[c1,c2,c3,c4,c5]
 unfold fv
 cases RF f.ba with
 |false=>simp
 |true=>
  simp only[abh,aaQ]
  cases f.bN.all (CW · 13 48 57) with
  |false=>simp
  |true=>
   simp only[abh,aaQ]
   cases f.bO.all (CW · 3 97 122) with
   |false=>simp
   |true=>
    simp only[abh,aaQ]
    cases decide (f.ba.length≤20) with
    |false=>simp
    |true=>
     cases decide (f.bN.length≤20) with
     |false=>simp
     |true=>
      cases decide (f.bO.length≤20) with
      |false=>simp
      |true=>
       cases decide (1≤f.nU) with
       |false=>simp
       |true=>
        cases decide (f.nU≤1000000000) with
        |false=>simp
        |true=>
         simp only[abt,aco,aaU,abb,ab1,adB,aaQ]
         cases decide (f.bf.length≤200)&&f.bf.all zV with
         |false=>simp
         |true=>
          cases decide (f.aw.length≤200)&&f.aw.all zV with
          |false=>simp
          |true=>
           cases decide (f.bh.length≤200)&&f.bh.all zV with
           |false=>simp
           |true=>
            cases UJ f.aM with
            |false=>simp
            |true=>
             cases A_ f.bN with
             |false=>simp
             |true=>
              cases A_ f.bO with
              |false=>simp
              |true=>
               cases A_ f.aw with
               |false=>simp
               |true=>simp
structure FB(f:af):Prop where
 t:f.bf.length≤1048576∧∀ x∈f.bf,x.length≤1048576
 a:f.aM.length≤1048576
 y:f.ba.length≤1048576
 i:f.bN.length≤1048576∧∀ x∈f.bN,x.length≤1048576
 l:f.bO.length≤1048576∧∀ x∈f.bO,x.length≤1048576
 p:f.aw.length≤1048576∧∀ x∈f.aw,x.length≤1048576
 e:f.bh.length≤1048576∧∀ x∈f.bh,x.length≤1048576
theorem FB.ok{f:af}(h:FB f):I7 f:=by
 have lt:∀ {k:Nat},k≤1048576→k≤ML:=fun hk=>abE hk (by decide)
 exact⟨⟨lt h.t.1,fun x hx=>lt (h.t.2 x hx)⟩,lt h.a,lt h.y,⟨lt h.i.1,fun x hx=>lt (h.i.2 x hx)⟩,⟨lt h.l.1,fun x hx=>lt (h.l.2 x hx)⟩,⟨lt h.p.1,fun x hx=>lt (h.p.2 x hx)⟩,⟨lt h.e.1,fun x hx=>lt (h.e.2 x hx)⟩⟩
theorem Ut{f:af}(h:FB f):∃ b,oF FU f=some b:=by
 unfold oF
 have h1:=h.t.1;have h2:=h.i.1;have h3:=h.l.1;have h4:=h.p.1;have h5:=h.e.1
 rw[qw (by simp;omega) (by simp;omega),aaQ,qw (by simp;omega) (by simp;omega),aaQ,qw (by simp;omega) (by simp;omega),aaQ,qw (by simp;omega) (by simp;omega),aaQ,qw (by simp;omega) (by simp;omega),aaQ]
 generalize hL:[f.aM]++f.bf++f.bN++f.bO++f.aw++f.bh=L
 have hlen:L.length≤10000000:=by rw[←hL];simp;omega
 obtain⟨t,e,_⟩:=bF (σ:=Int×Int) (f:=fun s=>k8 FU L s.1 s.2) (I:=fun k s=>∃ i:Nat,s.2=i∧i+k=L.length) (Q:=fun _:Bool⊕Int=>True) (by
  rintro k ⟨s,c⟩ ⟨i,h1,h2⟩
  dsimp only at h1
  subst h1
  simp only[k8]
  by_cases hc:(decide ((i:Int)<(L.length:Int))&&decide ((i:Int)<300))=true
  ·rw[aa2 hc]
   simp only[aaT,abe] at hc
   rw[bz [] (by omega),aaQ]
   by_cases hq:decide ((110:Int)<((L.getD i []).length:Int))=true
   ·right;rw[aa2 hq];exact⟨_,rfl,trivial⟩
   ·left
    rw[aa7 hq,aaQ,jT (x:=(i:Int)+1) (by omega) (by omega)]
    exact⟨_,k-1,rfl,by omega,i+1,by simp,by omega⟩
  ·right;rw[aa7 hc];exact⟨_,rfl,trivial⟩) L.length FU ((0:Int),(0:Int)) ⟨0,rfl,by omega⟩ (by simp only[FU];omega)
 rw[e]
 cases t with
 |inl b=>exact⟨b,rfl⟩
 |inr u=>exact⟨_,rfl⟩
end Go.Proofs.YtjdnbobilgamdaaGreatDoor.Ab.um
end
section
namespace Go.Proofs.YtjdnbobilgamdaaGreatDoor.Ab.um
def ld:List Int→List Int→Nat
 |[],b=>b.length
 |_::a,[]=>a.length+1
 |x::a,y::b=>if x=y then ld a b else 1+min (min (ld a b) (ld a (y::b))) (ld (x::a) b)
termination_by a b=>a.length+b.length
theorem tn(b:List Int):ld [] b=b.length:=by rw[ld]
theorem rM(a:List Int):ld a []=a.length:=by cases a<;>rw[ld]<;>rfl
theorem qh(x y:Int)(a b:List Int):ld (x::a) (y::b)=if x=y then ld a b else 1+min (min (ld a b) (ld a (y::b))) (ld (x::a) b):=by rw[ld]
theorem rN:∀ (k:Nat) (a b:List Int),a.length+b.length≤k→ld a b=ld b a
 |_,[],b,_=>by rw[tn,rM]
 |_,a,[],_=>by rw[tn,rM]
 |0,x::a,y::b,h=>by simp at h
 |k+1,x::a,y::b,h=>by
  simp only[abp] at h
  rw[qh,qh,rN k a b (by omega),rN k a (y::b) (by simp;omega),rN k (x::a) b (by simp;omega)]
  by_cases e:x=y
  ·rw[aa2 e,aa2 e.symm]
  ·rw[aa7 e,aa7 (acN e)];omega
theorem JR:∀ (k:Nat) (a b:List Int),a.length+b.length≤k→∀ x,ld (x::a) b≤ld a b+1∧ld a b≤ld (x::a) b+1:=by
 intro k
 induction k with
 |zero=>
  intro a b h x
  have ha:a=[]:=acY.1 (by omega)
  have hb:b=[]:=acY.1 (by omega)
  subst ha;subst hb
  simp[tn,rM]
 |succ k ih=>
  intro a b h x
  cases b with
  |nil=>simp only[rM,abp];omega
  |cons y b=>
   simp only[abp] at h
   have h1:=ih b a (by omega) y
   rw[rN _ (y::b) a (aaZ _),rN _ b a (aaZ _)] at h1
   have h2:=ih a b (by omega) x
   have h3:a.length+b.length≤k:=by omega
   rw[qh]
   by_cases e:x=y
   ·rw[aa2 e];omega
   ·rw[aa7 e]
    refine⟨by omega,?_⟩
    have:ld a (y::b)≤ld (x::a) b+2:=by omega
    omega
theorem Oz(a b:List Int)(y:Int):ld a (y::b)≤ld a b+1:=by
 rw[rN _ a (y::b) (aaZ _),rN _ a b (aaZ _)]
 exact(JR _ b a (aaZ _) y).1
inductive Way:List Int→List Int→Nat→Prop
 |nil:Way [] [] 0
 |aY {a b:List Int} {n:Nat} (x:Int):Way a b n→Way (x::a) (x::b) n
 |rep {a b:List Int} {n:Nat} (x y:Int):Way a b n→Way (x::a) (y::b) (n+1)
 |del {a b:List Int} {n:Nat} (x:Int):Way a b n→Way (x::a) b (n+1)
 |ins {a b:List Int} {n:Nat} (y:Int):Way a b n→Way a (y::b) (n+1)
theorem Way.le{a b:List Int}{n:Nat}(h:Way a b n):ld a b≤n:=by
 induction h with
 |nil=>simp[tn]
 |aY x _ ih=>rw[qh,aa2 rfl];exact ih
 |rep x y _ ih=>
  rw[qh]
  split<;>omega
 |@del a b n x _ ih=>have:=(JR _ a b (aaZ _) x).1;omega
 |@ins a b n y _ ih=>have:=Oz a b y;omega
theorem Way.all:∀ (b:List Int),Way [] b b.length
 |[]=>.nil
 |y::b=>.ins y (Way.all b)
theorem Way.Uu:∀ (a:List Int),Way a [] a.length
 |[]=>.nil
 |x::a=>.del x (Way.Uu a)
theorem Way.Li:∀ (k:Nat) (a b:List Int),a.length+b.length≤k→Way a b (ld a b)
 |_,[],b,_=>by rw[tn];exact .all b
 |_,a,[],_=>by rw[rM];exact .Uu a
 |0,x::a,y::b,h=>by simp at h
 |k+1,x::a,y::b,h=>by
  simp only[abp] at h
  rw[qh]
  by_cases e:x=y
  ·subst e;rw[aa2 rfl];exact .aY x (Way.Li k a b (by omega))
  ·rw[aa7 e]
   have h1:=Way.Li k a b (by omega)
   have h2:=Way.Li k a (y::b) (by simp;omega)
   have h3:=Way.Li k (x::a) b (by simp;omega)
   rcases Nat.le_total (ld a b) (ld a (y::b)) with c|c
   ·rw[acr c]
    rcases Nat.le_total (ld a b) (ld (x::a) b) with d|d
    ·rw[acr d,adH];exact .rep x y h1
    ·rw[Nat.min_eq_right d,adH];exact .ins y h3
   ·rw[Nat.min_eq_right c]
    rcases Nat.le_total (ld a (y::b)) (ld (x::a) b) with d|d
    ·rw[acr d,adH];exact .del x h2
    ·rw[Nat.min_eq_right d,adH];exact .ins y h3
theorem Way.app{a b c d:List Int}{n m:Nat}(h:Way a b n)(h2:Way c d m):Way (a++c) (b++d) (n+m):=by
 induction h with
 |nil=>simpa using h2
 |aY x _ ih=>exact .aY x ih
 |rep x y _ ih=>rw[Nat.add_right_comm];exact .rep x y ih
 |del x _ ih=>rw[Nat.add_right_comm];exact .del x ih
 |ins y _ ih=>rw[Nat.add_right_comm];exact .ins y ih
theorem Way.rev{a b:List Int}{n:Nat}(h:Way a b n):Way a.reverse b.reverse n:=by
 induction h with
 |nil=>exact .nil
 |aY x _ ih=>simpa using ih.app (.aY x .nil)
 |rep x y _ ih=>simpa using ih.app (.rep x y .nil)
 |del x _ ih=>simpa using ih.app (.del x .nil)
 |ins y _ ih=>simpa using ih.app (.ins y .nil)
theorem Uv(a b:List Int):ld a.reverse b.reverse=ld a b:=by
 have h1:=(Way.Li _ a b (aaZ _)).rev.le
 have h2:=(Way.Li _ a.reverse b.reverse (aaZ _)).rev.le
 simp only[List.reverse_reverse] at h2
 omega
end Go.Proofs.YtjdnbobilgamdaaGreatDoor.Ab.um
end
