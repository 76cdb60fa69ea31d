/- Plain laws on the loops of the plain language. Natural numbers as lists of digits to the base 65536: plain laws. Conditions: none. -/
import Derived.Test.YtjdnbobilgamdaaGreatDoorAb29
section
namespace Go.Proofs.YtjdnbobilgamdaaGreatDoor.Ab
open Go
abbrev FU:Nat:=18446744073709551616
abbrev ML:Nat:=9223372036854775807
theorem cv{i m:Nat}(h:i<m)(hm:m≤ML):IntKind.i64.wrap ((i:Int)+1)=((i+1:Nat):Int):=by
 rw[jT (by omega) (by simp only[ML] at hm;omega)];rfl
theorem bz{α:Type}{l:List α}{i:Nat}(d:α)(h:i<l.length):ix l (i:Int)=some (l.getD i d):=by
 simp[ix,h]
theorem tK{l:List UInt8}{i:Nat}(h:i<l.length):EY l (i:Int)=some ((l.getD i 0).toNat:Int):=by
 simp[EY,h]
theorem Bc{α:Type}{l:List α}{i:Int}(d:α)(h0:0≤i)(h:i<l.length):ix l i=some (l.getD i.toNat d):=by
 have h2:i.toNat<l.length:=by omega
 simp[ix,h0,h2]
theorem rL{σ τ:Type}{f:σ→Option (σ⊕τ)}{t:τ}(st:Nat→σ):∀ (m n:Nat) (s0:σ),(∀ j,j<m→f (st j)=some (.inl (st (j+1))))→f (st m)=some (.inr t)→m<n→s0=st 0→iter n f s0=some t
 |0,n+1,s0,_,he,_,h0=>by subst h0;simp[iter,he]
 |m+1,n+1,s0,hs,he,hn,h0=>by
  subst h0
  rw[iter,hs 0 (by omega)]
  exact rL (fun j=>st (j+1)) m n _ (fun j hj=>hs (j+1) (by omega)) he (by omega) rfl
 |m,0,s0,_,_,hn,_=>by omega
theorem lk{ρ:Type}{f:Int→Option (Int⊕ρ)}(m:Nat)(bad:Nat→Bool)(tb:Nat→ρ)(te:ρ):∀ (k j n:Nat) (s0:Int),j+k=m→
  (∀ j,j<m→f (j:Int)=some (if bad j=true then .inr (tb j) else .inl ((j+1:Nat):Int)))→f (m:Int)=some (.inr te)→k<n→s0=(j:Int)→
  (∃ i,j≤i∧i<m∧bad i=true∧(∀ h,j≤h→h<i→bad h=false)∧iter n f s0=some (tb i))∨((∀ i,j≤i→i<m→bad i=false)∧iter n f s0=some te)
 |0,j,n+1,s0,Yi,_,he,_,h0=>by
  obtain rfl:j=m:=by omega
  subst h0;exact .inr ⟨fun i h1 h2=>by omega,by simp[iter,he]⟩
 |k+1,j,n+1,s0,Yi,hf,he,hn,h0=>by
  subst h0
  rw[iter,hf j (by omega)]
  cases hb:bad j with
  |true=>exact .inl ⟨j,by omega,by omega,hb,fun h h1 h2=>by omega,rfl⟩
  |false=>
   rcases lk m bad tb te k (j+1) n _ (by omega) hf he (by omega) rfl with ⟨i,h1,h2,h3,h4,h5⟩|⟨h1,h2⟩
   ·exact .inl ⟨i,by omega,h2,h3,fun h q1 q2=>if hh:h=j then hh▸hb else h4 h (by omega) q2,h5⟩
   ·exact .inr ⟨fun i q1 q2=>if hh:i=j then hh▸hb else h1 i (by omega) q2,h2⟩
 |k,j,0,s0,_,_,_,hn,_=>by omega
def gQ(m:Nat)(p:Nat→Bool):Bool:=(List.range m).any p
theorem mW{m:Nat}{p:Nat→Bool}:gQ m p=true↔∃ i,i<m∧p i=true:=by simp[gQ]
theorem uZ{m:Nat}{p:Nat→Bool}:gQ m p=false↔∀ i,i<m→p i=false:=by simp[gQ]
theorem fh{ρ:Type}{f:Int→Option (Int⊕ρ)}(m n:Nat)(bad:Nat→Bool)(tb te:ρ)
  (hf:∀ j,j<m→f (j:Int)=some (if bad j=true then .inr tb else .inl ((j+1:Nat):Int)))(he:f (m:Int)=some (.inr te))(hn:m<n):
  iter n f 0=some (if gQ m bad=true then tb else te):=by
 rcases lk m bad (fun _=>tb) te m 0 n 0 (by omega) hf he hn rfl with ⟨i,_,h2,h3,_,h5⟩|⟨h1,h2⟩
 ·rw[h5,aa2 (mW.2 ⟨i,h2,h3⟩)]
 ·rw[h2,aa7 (by rw[uZ.2 (fun i hi=>h1 i (by omega) hi)];decide)]
theorem jY{α:Type}(l:List α)(d:α)(p:α→Bool):gQ l.length (fun i=>p (l.getD i d))=l.any p:=by
 rw[abG,mW,acd]
 constructor
 ·rintro⟨i,h,hp⟩;exact⟨l.getD i d,by simp[h],hp⟩
 ·rintro⟨x,hx,hp⟩
  obtain⟨i,h,rfl⟩:=acn hx
  exact⟨i,h,by simpa[h] using hp⟩
theorem HS{m:Nat}{p q:Nat→Bool}(h:∀ i,i<m→p i=q i):gQ m p=gQ m q:=by
 rw[abG,mW,mW]
 exact⟨fun⟨i,hi,hp⟩=>⟨i,hi,(h i hi)▸hp⟩,fun⟨i,hi,hp⟩=>⟨i,hi,(h i hi).symm▸hp⟩⟩
theorem jy{α:Type}(l:List α)(i j:Nat)(x d:α)(h:i<l.length):(l.set i x).getD j d=if i=j then x else l.getD j d:=by
 simp only[abz,adi]
 split
 ·simp[h]
 ·rfl
theorem cK{α:Type}(n:Nat)(l:List α)(p2:α→Option Bool)(P:α→Bool)(hp:∀ x∈l,p2 x=some (P x))(hl:l.length≤ML)(hn:l.length<n):
  ((iter n (fun s3:Int=>if (decide (s3<(l.length:Int)))=true then
    (ix l s3).bind fun v4=>(p2 v4).bind fun v5=>if v5=true then some (.inr (.inl s3)) else some (.inl (IntKind.i64.wrap (s3+(1:Int))))
    else (some (.inr (.inr ())):Option (Int⊕(Int⊕Unit)))) (0:Int)).bind fun t3=>match t3 with
    |(.inl u4)=>some u4
    |(.inr u5)=>(some (-1:Int):Option Int)).bind (fun v3=>some (decide ((0:Int)≤v3)))=some (l.any P):=by
 cases l with
 |nil=>
  cases n with
  |zero=>simp at hn
  |succ n=>simp[iter]
 |cons d0 l0=>
  generalize hL:d0::l0=l at *
  rcases lk (ρ:=Int⊕Unit) l.length (fun i=>P (l.getD i d0)) (fun i=>.inl (i:Int)) (.inr ()) l.length 0 n 0 (by omega)
   (f:=fun s3:Int=>if (decide (s3<(l.length:Int)))=true then
    (ix l s3).bind fun v4=>(p2 v4).bind fun v5=>if v5=true then some (.inr (.inl s3)) else some (.inl (IntKind.i64.wrap (s3+(1:Int))))
   else (some (.inr (.inr ())):Option (Int⊕(Int⊕Unit))))
   (fun j hj=>by
    have mG:l.getD j d0∈l:=by simp[hj]
    simp only[show((j:Int)<(l.length:Int)) from by omega,abo,abh,bz d0 hj,aaQ,hp _ mG,cv hj hl]
    split<;>rfl)
   (by simp) hn rfl with ⟨i,_,h2,h3,_,h5⟩|⟨h1,h2⟩
  ·rw[h5]
   simp only[aaQ]
   rw[abm (by omega),←jY l d0 P,mW.2 ⟨i,h2,h3⟩]
  ·rw[h2]
   simp only[aaQ]
   rw[←jY l d0 P,uZ.2 (fun i hi=>h1 i (by omega) hi)];rfl
theorem tL{α:Type}{b:Nat}{l:List α}{x:α}(h:(l.length+1)*b≤140737488355328)(hb:l.length+1≤4611686018427387904):app b l [x]=some (l++[x]):=by
 unfold app;rw[aa2 ⟨h,hb⟩]
theorem qw{α:Type}{b:Nat}{l l':List α}(h:(l.length+l'.length)*b≤140737488355328)(hb:l.length+l'.length≤4611686018427387904):app b l l'=some (l++l'):=by
 unfold app;rw[aa2 ⟨h,hb⟩]
end Go.Proofs.YtjdnbobilgamdaaGreatDoor.Ab
end
section
namespace Go.Proofs.YtjdnbobilgamdaaGreatDoor.Ab
open Go
def val:List Int→Int
 |[]=>0
 |d::l=>d+65536*val l
def dO(a:List Int):Prop:=∀ d∈a,0≤d∧d<65536
def ak(n:Nat):List Int:=if n=0 then [] else ((n%65536:Nat):Int)::ak (n/65536)
termination_by n
decreasing_by omega
theorem dt:ak 0=[]:=by rw[ak];rfl
theorem iF{n:Nat}(h:n≠0):ak n=((n%65536:Nat):Int)::ak (n/65536):=by rw[ak,aa7 h]
theorem gE(n:Nat):val (ak n)=(n:Int):=by
 induction n using Nat.strongRecOn with
 |_ n ih=>
  by_cases h:n=0
  ·subst h;rw[dt];rfl
  ·rw[iF h,val,ih (n/65536) (by omega)];omega
theorem wO:dO []:=fun d h=>by simp at h
theorem tT{d:Int}{l:List Int}:dO (d::l)↔(0≤d∧d<65536)∧dO l:=by
 simp[dO]
theorem mB{a b:List Int}:dO (a++b)↔dO a∧dO b:=by
 simp only[dO,ab']
 exact⟨fun h=>⟨fun d hd=>h d (.inl hd),fun d hd=>h d (.inr hd)⟩,fun h d hd=>hd.elim (h.1 d) (h.2 d)⟩
theorem bp(n:Nat):dO (ak n):=by
 induction n using Nat.strongRecOn with
 |_ n ih=>
  by_cases h:n=0
  ·subst h;rw[dt];exact wO
  ·rw[iF h,tT];exact⟨by omega,ih _ (by omega)⟩
theorem MW{x:Nat}(h:x≠0):ak x≠[]:=by rw[iF h];simp
theorem nH{x:Nat}:(ak x).length=0↔x=0:=by
 constructor
 ·intro h;by_cases hx:x=0
  ·exact hx
  ·rw[iF hx] at h;simp at h
 ·intro h;subst h;rw[dt];rfl
theorem rz(a b:List Int):val (a++b)=val a+65536^a.length*val b:=by
 induction a with
 |nil=>simp[val]
 |cons d a ih=>simp only[adt,val,ih,abp,acM];grind
theorem gl{a:List Int}(h:dO a):0≤val a∧val a<65536^a.length:=by
 induction a with
 |nil=>simp[val]
 |cons d a ih=>
  rw[tT] at h
  have:=ih h.2
  simp only[val,abp,acM];omega
theorem pow_pos(k:Nat):(0:Int)<65536^k:=Int.pow_pos (by decide)
theorem cM(a:List Int)(i:Nat):val (a.take (i+1))=val (a.take i)+65536^i*a.getD i 0:=by
 induction a generalizing i with
 |nil=>simp[val]
 |cons d a ih=>
  cases i with
  |zero=>simp[val]
  |succ i=>simp only[List.take_succ_cons,val,ih i,acM,List.getD_cons_succ];grind
theorem yF(a:List Int)(i:Nat)(h:i≤a.length):val a=val (a.take i)+65536^i*val (a.drop i):=by
 have:=rz (a.take i) (a.drop i)
 rw[acL,abI,acr h] at this
 exact this
theorem QW(a:List Int)(i:Nat)(x:Int)(h:i<a.length):val (a.set i x)=val a+65536^i*(x-a.getD i 0):=by
 induction a generalizing i with
 |nil=>simp at h
 |cons d a ih=>
  cases i with
  |zero=>simp only[List.set_cons_zero,val,Int.pow_zero,List.getD_cons_zero];grind
  |succ i=>
   have:=ih i (by simpa using h)
   simp only[List.set_cons_succ,val,this,acM,List.getD_cons_succ];grind
theorem tQ(n:Nat):val (List.replicate n 0)=0:=by
 induction n with
 |zero=>rfl
 |succ n ih=>rw[List.replicate_succ,val,ih];rfl
theorem pA(n:Nat):dO (List.replicate n 0):=by
 intro d hd
 obtain⟨_,rfl⟩:=List.mem_replicate.1 hd
 omega
theorem qI{a:List Int}{i:Nat}{x:Int}(h:dO a)(h0:0≤x)(h1:x<65536):dO (a.set i x):=by
 intro d hd
 rcases List.mem_or_eq_of_mem_set hd with h2|h2
 ·exact h d h2
 ·subst h2;exact⟨h0,h1⟩
theorem fC{a:List Int}(h:dO a)(i:Nat):0≤a.getD i 0∧a.getD i 0<65536:=by
 by_cases hi:i<a.length
 ·have:a.getD i 0∈a:=by simp[hi]
  exact h _ this
 ·rw[abz,abv (by omega)];simp
theorem nF{a:List Int}(h:dO a)(i:Nat):dO (a.take i):=fun d hd=>h d (adN hd)
theorem La{a:List Int}(h:dO a)(i:Nat):dO (a.drop i):=fun d hd=>h d (List.mem_of_mem_drop hd)
theorem Lb{a:List Int}(h:dO a)(hl:a.length=0∨a.getD (a.length-1) 0≠0):ak (val a).toNat=a:=by
 induction a with
 |nil=>exact dt
 |cons d a ih=>
  rw[tT] at h
  have h2:=gl h.2
  have hz:a.length=0∨a.getD (a.length-1) 0≠0:=by
   cases a with
   |nil=>exact .inl rfl
   |cons e a=>exact .inr (by simpa using hl)
  have h3:=ih h.2 hz
  have hp:0<val (d::a):=by
   rw[val]
   cases a with
   |nil=>
    simp only[abp,ada,val] at hl ⊢
    simp at hl;omega
   |cons e a=>
    have:val (e::a)≠0:=by
     intro h0;rw[h0] at h3;simp[dt] at h3
    omega
  rw[iF (by omega)]
  have e1:(val (d::a)).toNat/65536=(val a).toNat:=by rw[val];omega
  have e2:(((val (d::a)).toNat%65536:Nat):Int)=d:=by rw[val];omega
  rw[e1,e2,h3]
theorem Bh{x:Nat}(h:x≠0):(ak x).getD ((ak x).length-1) 0≠0:=by
 induction x using Nat.strongRecOn with
 |_ n ih=>
  rw[iF h]
  by_cases h2:n/65536=0
  ·rw[h2,dt];simp;omega
  ·have:=ih (n/65536) (by omega) h2
   have h3:(ak (n/65536)).length≠0:=fun h=>h2 (nH.1 h)
   rw[abp,show(ak (n/65536)).length+1-1=((ak (n/65536)).length-1)+1 by omega,List.getD_cons_succ]
   exact this
theorem nG{x k:Nat}:(ak x).length≤k↔x<65536^k:=by
 induction x using Nat.strongRecOn generalizing k with
 |_ n ih=>
  by_cases h:n=0
  ·subst h;rw[dt]
   have:0<65536^k:=acq (by decide)
   simp[this]
  ·rw[iF h,abp]
   cases k with
   |zero=>simp;omega
   |succ k=>rw[Nat.succ_le_succ_iff,ih (n/65536) (by omega),ace];omega
theorem nc{x y:Nat}(h:x≤y):(ak x).length≤(ak y).length:=
 nG.2 (ab_ h (nG.1 (aaZ _)))
theorem getD_take{l:List Int}{i j:Nat}(h:i<j):(l.take j).getD i 0=l.getD i 0:=by
 simp[abz,h]
def trim(a:List Int):List Int:=ak (val a).toNat
theorem wM{a:List Int}(h:dO a)(h0:a.length=0∨a.getD (a.length-1) 0≠0):trim a=a:=Lb h h0
theorem C2{a:List Int}(h0:a.length≠0)(hz:a.getD (a.length-1) 0=0):trim (a.take (a.length-1))=trim a:=by
 have h1:=cM a (a.length-1)
 rw[hz,show a.length-1+1=a.length by omega,abO] at h1
 simp only[trim];rw[h1];simp
theorem tO{a b:List Int}(ha:dO a)(hb:dO b){k:Nat}(h:k<a.length)(hl:a.length=b.length)(hd:a.drop (k+1)=b.drop (k+1))(hk:a.getD k 0<b.getD k 0):val a<val b:=by
 have e1:=yF a (k+1) (by omega)
 have e2:=yF b (k+1) (by omega)
 rw[hd] at e1
 have e3:=cM a k
 have e4:=cM b k
 have b1:=gl (nF ha k)
 have b2:=gl (nF hb k)
 rw[abI,acr (by omega)] at b1 b2
 have:=Int.mul_le_mul_of_nonneg_left (show a.getD k 0+1≤b.getD k 0 by omega) (Int.le_of_lt (pow_pos k))
 rw[Int.mul_add] at this
 omega
theorem sI{a b:List Int}{k:Nat}(hl:a.length=b.length)(h:∀ i,k≤i→i<a.length→a.getD i 0=b.getD i 0):a.drop k=b.drop k:=by
 apply aee
 ·simp[hl]
 ·intro i h1 h2
  rw[ack] at h1 h2
  have:=h (k+i) (by omega) (by omega)
  simpa[abz,show k+i<a.length by omega,show k+i<b.length by omega] using this
def y9(x y:Nat):Int:=if x<y then -1 else if x=y then 0 else 1
theorem M4{x y:Nat}:y9 x y<0↔x<y:=by unfold y9;split<;>(try split)<;>omega
theorem MZ{x y:Nat}:0<y9 x y↔y<x:=by unfold y9;split<;>(try split)<;>omega
theorem zY{x y:Nat}(h:(ak x).length<(ak y).length):x<y:=by
 refine Nat.lt_of_not_le fun h2=>?_
 have:=nc h2
 omega
theorem bF{σ τ:Type}{f:σ→Option (σ⊕τ)}(I:Nat→σ→Prop)(Q:τ→Prop)(h:∀ k s,I k s→(∃ s' k',f s=some (.inl s')∧k'<k∧I k' s')∨(∃ t,f s=some (.inr t)∧Q t)):
  ∀ (k n:Nat) (s:σ),I k s→k<n→∃ t,iter n f s=some t∧Q t:=by
 intro k
 induction k using Nat.strongRecOn with
 |_ k ih=>
  intro n s hI hn
  cases n with
  |zero=>omega
  |succ n=>
   rcases h k s hI with ⟨s',k',h1,h2,h3⟩|⟨t,h1,h2⟩
   ·obtain⟨t,e,q⟩:=ih k' h2 n s' h3 (by omega)
    exact⟨t,by rw[iter,h1];exact e,q⟩
   ·exact⟨t,by rw[iter,h1];rfl,h2⟩
theorem FM{l:List Int}{i:Int}(h0:0≤i)(h:i<l.length):ix l i=some (l.getD i.toNat 0):=Bc 0 h0 h
theorem lj{α:Type}{l:List α}{i:Int}{x:α}(h0:0≤i)(h:i<l.length):ku l i x=some (l.set i.toNat x):=by
 rw[ku,aa2 ⟨h0,by omega⟩]
theorem mY{α:Type}{b:Nat}{l m:List α}(hb:b≤1000)(h:l.length+m.length≤100000000000):app b l m=some (l++m):=by
 rw[app,aa2]
 refine⟨?_,by omega⟩
 have:=ac3 h hb
 omega
theorem og{α:Type}{b:Nat}{i:Int}{x:α}(hb:b≤1000)(h0:0≤i)(h:i≤100000000000):IN b i x=some (List.replicate i.toNat x):=by
 rw[IN,aa2]
 refine⟨h0,?_,by omega⟩
 have:=ac3 (show i.toNat≤100000000000 by omega) hb
 omega
theorem Be{α:Type}{l:List α}{lo hi:Int}(h0:0≤lo)(h1:lo≤hi)(h2:hi≤l.length):oR l lo hi=some ((l.take hi.toNat).drop lo.toNat):=by
 rw[oR,aa2 ⟨h0,h1,h2⟩]
theorem KD{a b:Int}(ha:0≤a)(hb:0<b):rem a b=some (a%b):=by
 rw[rem,aa7 (by omega),Int.tmod_eq_emod_of_nonneg ha]
theorem HV{a b:Int}(ha:0≤a)(hb:0<b)(h2:a≤9223372036854775807):quo .i64 a b=some (a/b):=by
 rw[quo,aa7 (by omega),UU ha hb h2]
abbrev va(a:List Int):Nat:=(val a).toNat
theorem kK(x:Nat):va (ak x)=x:=by rw[va,gE];rfl
theorem C3{a:List Int}(h:dO a):(va a:Int)=val a:=acw (gl h).1
def P_(a:List Int):Bool:=decide (a.length≤128)&&a.all (fun d=>decide (0≤d)&&decide (d<65536))&&(decide (a.length=0)||!decide (a.getD (a.length-1) 0=0))
def mX:Nat:=65536^128
theorem tP{x:Nat}(h:x<mX):P_ (ak x)=true:=by
 have h1:(ak x).length≤128:=nG.2 h
 have h2:=bp x
 simp only[P_,aaT,abe,abi,abU,abC]
 refine⟨⟨h1,fun d hd=>by have:=h2 d hd;simpa using this⟩,?_⟩
 by_cases h0:x=0
 ·subst h0;rw[dt];exact .inl rfl
 ·exact .inr (abF (Bh h0))
theorem dC{x:Nat}:(ak x).length≤128↔x<mX:=nG
theorem Bf{x:Nat}:128<(ak x).length↔¬x<mX:=by rw[←dC];omega
theorem wN{l:List Int}{i m:Nat}(x:Int)(h:i<m)(hm:m≤l.length):val ((l.set i x).take m)=val (l.take m)+65536^i*(x-l.getD i 0):=by
 rw[List.take_set,QW _ _ _ (by rw[abI];omega),getD_take h]
theorem gR{l:List Int}{i:Nat}(x:Int)(h:i<l.length):val ((l.set i x).take (i+1))=val (l.take i)+65536^i*x:=by
 rw[wN x (by omega) h,cM];grind
theorem iE{l:List Int}{i:Nat}(h:l.length≤i):l.take i=l:=acH h
theorem Ed{a:List Int}{m:Nat}(h:dO a)(hv:val a<65536^m):val (a.take m)=val a:=by
 by_cases hm:m≤a.length
 ·have e:=yF a m hm
  have h1:=gl (nF h m)
  have h2:=gl (La h m)
  have h3:val (a.drop m)=0:=by
   refine Classical.byContradiction fun hc=>?_
   have:=Int.mul_le_mul_of_nonneg_left (show(1:Int)≤val (a.drop m) by omega) (Int.le_of_lt (pow_pos m))
   omega
  rw[h3] at e;omega
 ·rw[iE (by omega)]
theorem KB{x y:Int}(hx:0≤x∧x<65536)(hy:0≤y∧y<65536):0≤x*y∧x*y≤4294836225:=by
 refine⟨Int.mul_nonneg hx.1 hy.1,?_⟩
 have h1:=Int.mul_le_mul (show x≤65535 by omega) (show y≤65535 by omega) hy.1 (by decide)
 omega
end Go.Proofs.YtjdnbobilgamdaaGreatDoor.Ab
end
