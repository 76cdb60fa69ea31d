/- Plain theory, joined. The lines of an explanation, and outcomes, in plain Lean. Conditions: none. -/
import Derived.Test.YtjdnbobilgamdaaGreatDoorDvo
import Derived.Laws.RangeAny
import Derived.ProofKit
section
set_option maxRecDepth 100000
namespace Go.Proofs.YtjdnbobilgamdaaGreatDoor.Ab.um
open Go
section
open Go
theorem MF:∀ (a b:List UInt8),(Go.Op.bytesLess a b||decide (a=b))=!Go.Op.bytesLess b a
 |[],[]=>rfl
 |[],_::_=>rfl
 |_::_,[]=>rfl
 |x::a,y::b=>by
  have ih:=MF a b
  simp only[Go.Op.bytesLess]
  by_cases h1:x<y
  ·have h2:¬y<x:=UInt8.lt_asymm h1
   have h3:(y==x)=false:=by rw[beq_eq_false_iff_ne];rintro rfl;exact UInt8.lt_irrefl _ h1
   simp[h1,h2,h3]
  ·by_cases h2:y<x
   ·have h3:(x==y)=false:=by rw[beq_eq_false_iff_ne];rintro rfl;exact UInt8.lt_irrefl _ h2
    have h4:¬(x::a=y::b):=by intro e;injection e with e;subst e;exact UInt8.lt_irrefl _ h2
    simp[h1,h2,h3,h4]
   ·have h3:x=y:=UInt8.le_antisymm (UInt8.not_lt.1 h2) (UInt8.not_lt.1 h1)
    subst h3
    simp only[abF h1,ab5,adK,ab1,List.cons.injEq,true_and]
    exact ih
theorem P0(a b:List UInt8):(Lw a b||decide (a=b))=!Lw b a:=MF a b
def HO(s:List UInt8)(lo hi:Int):Bool:=s.all fun c=>decide (lo≤(c.toNat:Int))&&decide ((c.toNat:Int)≤hi)
def zV(s:List UInt8):Bool:=decide (1≤s.length)&&decide (s.length≤400)&&HO s 33 255
def CW(s:List UInt8)(k:Nat)(lo hi:Int):Bool:=decide (s.length=k)&&HO s lo hi
def A_(l:List (List UInt8)):Bool:=!gQ l.length fun i=>decide (0<i)&&!Lw (l.getD (i-1) []) (l.getD i [])
def RF(l:List Int):Bool:=!gQ l.length fun i=>!(decide (1000≤l.getD i 0)&&decide (l.getD i 0≤2999))||decide (0<i)&&decide (l.getD i 0≤l.getD (i-1) 0)
def UJ(s:List UInt8):Bool:=decide (s.length≤420)&&HO s 32 255&&(decide (s=[])||!decide (s.getD 0 0=32)&&!decide (s.getD (s.length-1) 0=32))
def fv(f:af):Bool:=
 decide (1≤f.nU)&&decide (f.nU≤1000000000)&&decide (f.bf.length≤200)&&f.bf.all zV&&UJ f.aM&&decide (f.ba.length≤20)&&RF f.ba&&
 (decide (f.bN.length≤20)&&f.bN.all (CW · 13 48 57)&&A_ f.bN)&&(decide (f.bO.length≤20)&&f.bO.all (CW · 3 97 122)&&A_ f.bO)&&
 (decide (f.aw.length≤200)&&f.aw.all zV&&A_ f.aw)&&(decide (f.bh.length≤200)&&f.bh.all zV&&A_ f.bh)
def RG(l:List (List UInt8)):Prop:=l.length≤ML∧∀ x∈l,x.length≤ML
structure I7(f:af):Prop where
 t:RG f.bf
 a:f.aM.length≤ML
 y:f.ba.length≤ML
 i:RG f.bN
 l:RG f.bO
 p:RG f.aw
 e:RG f.bh
theorem zW{n:Nat}{s:List UInt8}{lo hi:Int}(hl:s.length≤ML)(hn:s.length<n):fg n s lo hi=some (HO s lo hi):=by
 have h:dm n (vX s) (fun y1=>iy n y1 lo hi)=some ((vX s).any fun c=>decide (c<lo)||decide (hi<c)):=
  cK n (vX s) (fun y1=>iy n y1 lo hi) (fun c=>decide (c<lo)||decide (hi<c)) (fun x _=>rfl) (by simpa[vX] using hl) (by simpa[vX] using hn)
 unfold fg
 rw[h,aaQ]
 congr 1
 unfold HO vX
 rw[List.any_map,abG]
 simp only[abC,List.any_eq_false,abi,Function.comp_apply,abU,abe,aaT,not_or]
 exact⟨fun h x hx=>by have:=h x hx;omega,fun h x hx=>by have:=h x hx;omega⟩
theorem D4{n:Nat}{s:List UInt8}(hl:s.length≤ML)(hn:s.length<n):dr n s=some (zV s):=by
 unfold dr zV
 rw[zW hl hn]
 by_cases h:s=[]
 ·subst h;simp
 ·have h1:1≤s.length:=abA.2 h
  by_cases h2:s.length≤400
  ·have h3:(s.length:Int)≤400:=by omega
   simp[h,h1,h2,h3]
  ·have h3:¬(s.length:Int)≤400:=by omega
   simp[h,h1,h2,h3]
theorem P1{n:Nat}{s:List UInt8}(hl:s.length≤ML)(hn:s.length<n):gg n s=some (CW s 13 48 57):=by
 unfold gg CW
 rw[zW hl hn]
 by_cases h:s.length=13
 ·simp[h]
 ·have h2:¬(s.length:Int)=13:=by omega
  simp[h,h2]
theorem P2{n:Nat}{s:List UInt8}(hl:s.length≤ML)(hn:s.length<n):gh n s=some (CW s 3 97 122):=by
 unfold gh CW
 rw[zW hl hn]
 by_cases h:s.length=3
 ·simp[h]
 ·have h2:¬(s.length:Int)=3:=by omega
  simp[h,h2]
theorem FA{j:Nat}(h:0<j)(hm:j≤ML):IntKind.i64.wrap ((j:Int)-1)=((j-1:Nat):Int):=by
 rw[jT (by omega) (by simp only[ML] at hm;omega)];omega
theorem MG{n:Nat}{l:List Int}(hl:l.length≤ML)(hn:l.length<n):jx n l=some (RF l&&decide (l.length≤20)):=by
 unfold jx
 rw[fh (ρ:=Bool⊕Unit) l.length n (fun i=>!(decide (1000≤l.getD i 0)&&decide (l.getD i 0≤2999))||decide (0<i)&&decide (l.getD i 0≤l.getD (i-1) 0)) (.inl false) (.inr ())
  (fun j hj=>by
   unfold gi
   simp only[show((j:Int)<(l.length:Int)) from by omega,abo,abh,bz 0 hj,aaQ,cv hj hl]
   generalize hx:l.getD j 0=x
   by_cases h0:0<j
   ·have h1:l.length≤ML:=hl
    rw[FA h0 (by omega),bz 0 (show j-1<l.length by omega)]
    generalize l.getD (j-1) 0=y
    by_cases q1:x<1000
    ·simp[q1,show ¬1000≤x by omega]
    ·by_cases q2:2999<x
     ·simp[q1,q2,show ¬x≤2999 by omega]
     ·simp[q1,q2,h0,show 1000≤x by omega,show x≤2999 by omega]
      split<;>rfl
   ·have Pf:¬(0:Int)<(j:Int):=by omega
    by_cases q1:x<1000
    ·simp[q1,h0,Pf,show ¬1000≤x by omega]
    ·by_cases q2:2999<x
     ·simp[q1,q2,h0,Pf,show ¬x≤2999 by omega]
     ·simp[q1,q2,h0,Pf,show 1000≤x by omega,show x≤2999 by omega])
  (by unfold gi;simp) hn]
 have h20:decide ((l.length:Int)≤20)=decide (l.length≤20):=by rw[abH];omega
 unfold RF
 rw[h20]
 generalize gQ l.length _=b
 cases b<;>simp
theorem Te{n:Nat}{l:List (List UInt8)}{FD:Nat}{p:List UInt8→Option Bool}{q:List UInt8→Bool}(hp:∀ x∈l,p x=some (q x))(hl:l.length≤ML)(hn:l.length<n):
  cL n l (FD:Int) p=some (decide (l.length≤FD)&&l.all q&&A_ l):=by
 have V1:decide ((l.length:Int)≤(FD:Int))=decide (l.length≤FD):=by rw[abH];omega
 unfold cL
 rw[fh (ρ:=Bool⊕Unit) l.length n (fun i=>!q (l.getD i [])||decide (0<i)&&!Lw (l.getD (i-1) []) (l.getD i [])) (.inl false) (.inr ())
  (fun j hj=>by
   unfold iz
   have hm:l.getD j []∈l:=by simp[hj]
   simp only[show((j:Int)<(l.length:Int)) from by omega,abo,abh,bz [] hj,aaQ,cv hj hl,hp _ hm]
   generalize hx:l.getD j []=x
   cases hq:q x
   ·simp
   ·by_cases h0:0<j
    ·rw[FA h0 (by omega),bz [] (show j-1<l.length by omega)]
     generalize l.getD (j-1) []=y
     simp[h0,P0]
     split<;>rfl
    ·have Pf:¬(0:Int)<(j:Int):=by omega
     simp[h0,Pf])
  (by unfold iz;simp) hn]
 have e:gQ l.length (fun i=>!q (l.getD i [])||decide (0<i)&&!Lw (l.getD (i-1) []) (l.getD i []))=!(l.all q&&A_ l):=by
  unfold A_
  rw[abG,mW]
  simp only[abU,abC,Bool.and_eq_false_iff,List.all_eq_false,ad1,mW]
  constructor
  ·rintro⟨i,hi,h|h⟩
   ·exact .inl ⟨_,acb hi,by simpa[hi] using h⟩
   ·exact .inr ⟨i,hi,by simpa using h⟩
  ·rintro(⟨x,hx,h⟩|⟨i,hi,h⟩)
   ·obtain⟨i,hi,rfl⟩:=acn hx
    exact⟨i,hi,.inl (by simpa[hi] using h)⟩
   ·exact⟨i,hi,.inr (by simpa using h)⟩
 rw[e,V1,aew]
 generalize (l.all q&&A_ l)=b
 cases b<;>simp
theorem FE{s:List UInt8}(h:s≠[])(hl:s.length≤ML):EY s (IntKind.i64.wrap ((s.length:Int)-1))=some ((s.getD (s.length-1) 0).toNat:Int):=by
 have h1:=abA.2 h
 rw[FA h1 hl,tK (by omega)]
theorem I8{c:UInt8}:((c.toNat:Int)=32)↔c=32:=by
 constructor
 ·intro h;apply UInt8.toNat_inj.1;simp;omega
 ·rintro rfl;rfl
theorem uY{n:Nat}{f:af}(h:I7 f)(hn:ML<n):dN n f=some (fv f):=by
 have lt:∀ {k:Nat},k≤ML→k<n:=fun hk=>by omega
 have hs:∀ (l:List (List UInt8)) (FD:Nat) (p:List UInt8→Option Bool) (q:List UInt8→Bool),RG l→(∀ x:List UInt8,x.length≤ML→p x=some (q x))→cL n l (FD:Int) p=some (decide (l.length≤FD)&&l.all q&&A_ l):=
  fun l FD p q hl hp=>Te (fun x hx=>hp x (hl.2 x hx)) hl.1 (lt hl.1)
 have e1:=hs f.bN 20 (fun y1=>gg n y1) (CW · 13 48 57) h.i (fun x hx=>P1 hx (lt hx))
 have e2:=hs f.bO 20 (fun y1=>gh n y1) (CW · 3 97 122) h.l (fun x hx=>P2 hx (lt hx))
 have e3:=hs f.aw 200 (fun y1=>dr n y1) zV h.p (fun x hx=>D4 hx (lt hx))
 have e4:=hs f.bh 200 (fun y1=>dr n y1) zV h.e (fun x hx=>D4 hx (lt hx))
 have e5:bx n f.bf (fun y1=>fu n y1)=some (f.bf.any fun x=>!zV x):=
  cK n f.bf (fun y1=>fu n y1) (fun x=>!zV x) (fun x hx=>by
   unfold fu;rw[D4 (h.t.2 x hx) (lt (h.t.2 x hx))];rfl) h.t.1 (lt h.t.1)
 unfold dN
 rw[zW h.a (lt h.a),e5,MG h.y (lt h.y)]
 have e1:cL n f.bN (20:Int) (fun y1=>gg n y1)=_:=e1
 have e2:cL n f.bO (20:Int) (fun y1=>gh n y1)=_:=e2
 have e3:cL n f.aw (200:Int) (fun y1=>dr n y1)=_:=e3
 have e4:cL n f.bh (200:Int) (fun y1=>dr n y1)=_:=e4
 rw[e1,e2,e3,e4]
 have ha:(f.bf.any fun x=>!zV x)=!f.bf.all zV:=by
  rw[abG];simp
 have c1:decide (f.nU<1)=!decide (1≤f.nU):=by rw[←decide_not,abH];omega
 have c2:decide (1000000000<f.nU)=!decide (f.nU≤1000000000):=by rw[←decide_not,abH];omega
 have c3:decide ((200:Int)<(f.bf.length:Int))=!decide (f.bf.length≤200):=by rw[←decide_not,abH];omega
 have c4:decide ((420:Int)<(f.aM.length:Int))=!decide (f.aM.length≤420):=by rw[←decide_not,abH];omega
 rw[ha,c1,c2,c3,c4]
 unfold fv UJ
 generalize (decide (f.bN.length≤20)&&f.bN.all (CW · 13 48 57)&&A_ f.bN)=b3
 generalize (decide (f.bO.length≤20)&&f.bO.all (CW · 3 97 122)&&A_ f.bO)=b4
 generalize (decide (f.aw.length≤200)&&f.aw.all zV&&A_ f.aw)=b5
 generalize (decide (f.bh.length≤200)&&f.bh.all zV&&A_ f.bh)=b6
 generalize f.bf.all zV=b1
 generalize RF f.ba=b2
 generalize decide (f.ba.length≤20)=YR
 generalize HO f.aM 32 255=b7
 generalize decide (1≤f.nU)=d1
 generalize decide (f.nU≤1000000000)=d2
 generalize decide (f.bf.length≤200)=d3
 generalize decide (f.aM.length≤420)=d4
 have tail:∀ X:Option Bool,(some (b2&&YR)).bind (fun v6=>((if v6=true then some b3 else some default):Option Bool).bind fun v7=>((if (v6&&v7)=true then some b4 else some default):Option Bool).bind fun v8=>
   ((if ((v6&&v7)&&v8)=true then some b5 else some default):Option Bool).bind fun v9=>((if (((v6&&v7)&&v8)&&v9)=true then some b6 else some default):Option Bool).bind fun v10=>some ((((v6&&v7)&&v8)&&v9)&&v10))=
   some (YR&&b2&&b3&&b4&&b5&&b6):=by
  intro _
  cases b2<;>cases YR<;>cases b3<;>cases b4<;>cases b5<;>cases b6<;>rfl
 rw[tail none]
 by_cases h5:f.aM=[]
 ·cases d1<;>cases d2<;>cases d3<;>cases d4<;>cases b7<;>cases b1<;>simp[h5]
 ·have h6:=abA.2 h5
  have g0:EY f.aM 0=some ((f.aM.getD 0 0).toNat:Int):=tK (i:=0) h6
  have q1:decide (((f.aM.getD 0 0).toNat:Int)=32)=decide (f.aM.getD 0 0=32):=by rw[abH];exact I8
  have q2:decide (((f.aM.getD (f.aM.length-1) 0).toNat:Int)=32)=decide (f.aM.getD (f.aM.length-1) 0=32):=by rw[abH];exact I8
  rw[g0,FE h5 h.a,abF h5]
  simp only[abw,abh,aaQ,ab1,q1,ab5]
  generalize decide (f.aM.getD 0 0=32)=k1
  cases k1
  ·simp only[abw,abh,aaQ,ab5,q2]
   generalize decide (f.aM.getD (f.aM.length-1) 0=32)=k2
   cases d1<;>cases d2<;>cases d3<;>cases d4<;>cases b7<;>cases b1<;>cases k2<;>simp
  ·cases d1<;>cases d2<;>cases d3<;>cases d4<;>cases b7<;>cases b1<;>simp
end
section
open Go
theorem sG{α:Type}{f:Int→α→Option (Int⊕Int)}{p:α→Bool}(h:∀ s e,f s e=some (.inl (if p e=true then IntKind.i64.wrap (s+1) else s))):
  ∀ (l:List α) (s:Int),0≤s→s+l.length≤ML→rU f (fun s=>s) s l=some (s+(l.countP p:Nat))
 |[],s,_,_=>by simp[rU]
 |e::l,s,h0,hl=>by
  simp only[abp] at hl
  rw[rU,h]
  simp only[aaQ]
  cases hp:p e with
  |true=>
   simp only[abh]
   rw[jT (by omega) (by simp only[ML] at hl;omega),sG h l (s+1) (by omega) (by omega),ads,hp]
   congr 1;simp;omega
  |false=>
   simp only[aaU,abb]
   rw[sG h l s h0 (by omega),ads,hp];simp
theorem D5{α:Type}{f:Int→α→Option (Int⊕Int)}{p:α→Bool}(h:∀ s e,f s e=some (.inl (if p e=true then IntKind.i64.wrap (s+1) else s))){l:List α}(hl:l.length≤ML):
  uU f (fun s=>s) 0 l=some ((l.countP p:Nat):Int):=
 Ke fun q hq=>by
  rw[sG h q 0 (by omega) (by rw[hq.length_eq];omega),hq.countP_eq];simp
theorem pz{κ ν:Type}[DecidableEq κ]{k:κ}:∀ {m:List (κ×ν)},e_ m k=none↔k∉m.map (·.1)
 |[]=>by simp[e_]
 |x::m=>by
  unfold e_
  by_cases h:k=x.1
  ·simp[h]
  ·simp[h,pz (m:=m)]
theorem qH{κ ν:Type}[DecidableEq κ]{k:κ}{v:ν}{m:List (κ×ν)}:(jl m k v).map (·.1)=if k∈m.map (·.1) then m.map (·.1) else m.map (·.1)++[k]:=by
 unfold jl
 cases h:e_ m k with
 |none=>rw[aa7 (pz.1 h)];simp
 |some j=>
  obtain⟨x,h1,h2⟩:=mR h
  have hm:k∈m.map (·.1):=by
   subst h2
   exact abS.2 ⟨x,abc h1,rfl⟩
  rw[aa2 hm]
  simp only[List.map_set]
  subst h2
  apply ab6
  intro i
  rw[adi]
  by_cases AJ:j=i
  ·subst AJ
   have aN:=(aaS.1 h1).1
   rw[aa2 rfl,aa2 (by simpa using aN),aba,h1];rfl
  ·simp[AJ]
theorem A'{κ ν:Type}[DecidableEq κ]{k:κ}{v:ν}{m:List (κ×ν)}(h:ft m k=some v):(k,v)∈m:=by
 unfold ft at h
 rw[abM] at h
 obtain⟨j,h1,h2⟩:=h
 obtain⟨x,h3,rfl⟩:=mR h1
 rw[h3] at h2
 simp at h2;subst h2
 exact abc h3
theorem wH{κ ν:Type}[DecidableEq κ]{k:κ}{v:ν}:∀ {m:List (κ×ν)},(m.map (·.1)).Nodup→(k,v)∈m→ft m k=some v
 |x::m,hn,h=>by
  simp only[abP,aek] at hn
  rcases abq.1 h with rfl|h
  ·simp[ft,e_]
  ·have hk:k∈m.map (·.1):=abS.2 ⟨_,h,rfl⟩
   have aR:k≠x.1:=fun e=>hn.1 (e▸hk)
   have ih:=wH hn.2 h
   unfold ft at ih ⊢
   unfold e_
   rw[aa7 aR]
   cases hf:e_ m k with
   |none=>rw[hf] at ih;simp at ih
   |some j=>rw[hf] at ih;simpa using ih
theorem CX{κ ν:Type}[DecidableEq κ]{k:κ}{m:List (κ×ν)}:ft m k=none↔k∉m.map (·.1):=by
 constructor
 ·intro h hk
  cases hf:e_ m k with
  |none=>exact pz.1 hf hk
  |some j=>
   obtain⟨x,h1,_⟩:=mR hf
   simp[ft,hf,h1] at h
 ·intro h
  simp[ft,pz.2 h]
theorem MH{κ ν:Type}[DecidableEq κ]{k q:κ}{v:ν}{m:List (κ×ν)}(hn:(m.map (·.1)).Nodup):ft (jl m k v) q=if q=k then some v else ft m q:=by
 have hn2:((jl m k v).map (·.1)).Nodup:=by
  rw[qH]
  split
  ·exact hn
  ·rename_i h
   rw[ad_]
   exact⟨hn,by simp,fun a ha b hb=>by simp at hb;subst hb;rintro rfl;exact h ha⟩
 by_cases hq:q=k
 ·subst hq
  rw[aa2 rfl]
  refine wH hn2 ?_
  unfold jl
  cases hf:e_ m q with
  |none=>simp
  |some j=>
   obtain⟨x,h1,_⟩:=mR hf
   exact abc (i:=j) (by simp[(aaS.1 h1).1])
 ·rw[aa7 hq]
  cases hg:ft m q with
  |none=>
   rw[CX] at hg ⊢
   rw[qH]
   split
   ·exact hg
   ·simp[hg,hq]
  |some w=>
   refine wH hn2 ?_
   have hw:=A' hg
   unfold jl
   cases hf:e_ m k with
   |none=>exact acS _ hw
   |some j=>
    obtain⟨x,h1,h2⟩:=mR hf
    obtain⟨i,hi⟩:=adn hw
    have AJ:j≠i:=by rintro rfl;rw[h1] at hi;injection hi with hi;subst hi;exact hq h2
    exact abc (i:=i) (by rw[adi,aa7 AJ];exact hi)
theorem Kw{κ ν:Type}[DecidableEq κ]{k:κ}{v:ν}{m:List (κ×ν)}(hn:(m.map (·.1)).Nodup):((jl m k v).map (·.1)).Nodup:=by
 rw[qH]
 split
 ·exact hn
 ·rename_i h
  rw[ad_]
  exact⟨hn,by simp,fun a ha b hb=>by simp at hb;subst hb;rintro rfl;exact h ha⟩
theorem o8{α:Type}[DecidableEq α]:∀ {l m:List α},l.Nodup→m.Nodup→(∀ x,x∈l↔x∈m)→l.Perm m
 |[],m,_,_,h=>by
  cases m with
  |nil=>exact .refl _
  |cons y m=>exact absurd ((h y).2 (abr ..)) (by simp)
 |x::l,m,hl,hm,h=>by
  have hx:x∈m:=(h x).1 (abr ..)
  have p:=List.perm_cons_erase hx
  rw[aek] at hl
  refine .trans (.cons x (o8 hl.2 (hm.erase x) fun y=>?_)) p.symm
  rw[hm.mem_erase_iff]
  constructor
  ·intro hy;exact⟨fun e=>hl.1 (e▸hy),(h y).1 (aby _ hy)⟩
  ·rintro⟨h1,h2⟩
   rcases abq.1 ((h y).2 h2) with rfl|h3
   ·exact absurd rfl h1
   ·exact h3
abbrev WM:=List (List UInt8×Int)
def wI(M:WM)(v:List UInt8→Int):Prop:=(M.map (·.1)).Nodup∧∀ k,ft M k=if v k=0 then none else some (v k)
theorem HP{M:WM}{v:List UInt8→Int}(h:wI M v):M.countP (fun e=>decide (e.2=3))=(M.map (·.1)).countP (fun k=>decide (v k=3)):=by
 rw[List.countP_map]
 refine List.countP_congr fun e he=>?_
 have:=wH h.1 (show(e.1,e.2)∈M from he)
 rw[h.2] at this
 split at this
 ·cases this
 ·injection this with this;simp[this]
def bt(a:List (List UInt8))(k:Int)(w:List UInt8):Int:=if w∈a then k else 0
def vv(a b:List (List UInt8))(w:List UInt8):Int:=bt a 1 w+bt b 2 w
theorem I9{M:WM}{v:List UInt8→Int}{w:List UInt8}{k:Int}(h:wI M v)(hk:zq .i64 (·||| ·) (v w) k≠0):wI (jl M w (zq .i64 (·||| ·) ((ft M w).getD 0) k)) (fun q=>if q=w then zq .i64 (·||| ·) (v w) k else v q):=by
 refine⟨Kw h.1,fun q=>?_⟩
 rw[MH h.1]
 have e:(ft M w).getD 0=v w:=by
  rw[h.2]
  split
  ·rename_i h0;simp[h0]
  ·simp
 rw[e]
 by_cases hq:q=w
 ·simp[hq,hk]
 ·simp[hq,h.2]
theorem I_{a:List (List UInt8)}{k:Int}{w q:List UInt8}:bt (a++[w]) k q=if q=w then k else bt a k q:=by
 unfold bt
 by_cases h:q=w<;>simp[h]
theorem dA{α:Type}{l:List α}{i:Nat}(d:α)(h:i<l.length):l.take (i+1)=l.take i++[l.getD i d]:=by
 rw[acD];simp[h]
theorem MI{n:Nat}{a:List (List UInt8)}(hl:a.length≤ML)(hn:a.length<n):∃ M,iter n (fun s=>eI n a s.1 s.2) ((0:Int),[])=some M∧wI M (bt a 1)∧M.length≤a.length:=by
 refine bF (σ:=Int×WM) (I:=fun k s=>∃ i:Nat,s.1=i∧i+k=a.length∧wI s.2 (bt (a.take i) 1)∧s.2.length≤i) (Q:=fun M:WM=>wI M (bt a 1)∧M.length≤a.length) ?_ a.length n _ ⟨0,rfl,by omega,⟨by simp,fun k=>by simp[bt,ft,e_]⟩,by simp⟩ hn
 rintro k ⟨x,M⟩ ⟨i,h1,h2,h3,h4⟩
 dsimp only at h1 h3 h4
 subst h1
 simp only[eI]
 by_cases hk:k=0
 ·right
  have e0:i=a.length:=by omega
  subst e0
  rw[abO] at h3
  exact⟨M,by simp,h3,h4⟩
 ·left
  have hi:i<a.length:=by omega
  simp only[show(i:Int)<a.length by omega,abo,abh,bz [] hi,aaQ,cv hi hl]
  refine⟨_,k-1,rfl,by omega,i+1,rfl,by omega,?_,?_⟩
  ·rw[dA [] hi]
   generalize a.getD i []=w
   have hb:bt (a.take i) 1 w=0∨bt (a.take i) 1 w=1:=by unfold bt;split<;>simp
   have hv:zq .i64 (·||| ·) (bt (a.take i) 1 w) 1=1:=by rcases hb with h|h<;>rw[h]<;>decide
   have:=I9 (w:=w) (k:=1) h3 (by rw[hv];decide)
   rw[hv] at this
   have e:(fun q=>if q=w then (1:Int) else bt (a.take i) 1 q)=bt (a.take i++[w]) 1:=by funext q;rw[I_]
   rw[e] at this;exact this
  ·have:=adg List.length (qH (m:=M) (k:=a.getD i []) (v:=zq .i64 (·||| ·) ((ft M (a.getD i [])).getD 0) 1))
   simp only[aa4] at this
   show(jl M (a.getD i []) _).length≤i+1
   rw[this]
   split<;>simp<;>omega
theorem MJ{n:Nat}{b:List (List UInt8)}{M0:WM}{u:List (List UInt8)}(h0:wI M0 (bt u 1))(hl:b.length≤ML)(hn:b.length<n):∃ M,iter n (fun s=>eJ n b s.1 s.2) ((0:Int),M0)=some M∧wI M (vv u b)∧M.length≤M0.length+b.length:=by
 refine bF (σ:=Int×WM) (I:=fun k s=>∃ i:Nat,s.1=i∧i+k=b.length∧wI s.2 (vv u (b.take i))∧s.2.length≤M0.length+i) (Q:=fun M:WM=>wI M (vv u b)∧M.length≤M0.length+b.length) ?_ b.length n _ ⟨0,rfl,by omega,(by
  have e:vv u (b.take 0)=bt u 1:=by funext q;simp[vv,bt]
  rw[e];exact h0),by simp⟩ hn
 rintro k ⟨x,M⟩ ⟨i,h1,h2,h3,h4⟩
 dsimp only at h1 h3 h4
 subst h1
 simp only[eJ]
 by_cases hk:k=0
 ·right
  have e0:i=b.length:=by omega
  subst e0
  rw[abO] at h3
  exact⟨M,by simp,h3,h4⟩
 ·left
  have hi:i<b.length:=by omega
  simp only[show(i:Int)<b.length by omega,abo,abh,bz [] hi,aaQ,cv hi hl]
  refine⟨_,k-1,rfl,by omega,i+1,rfl,by omega,?_,?_⟩
  ·rw[dA [] hi]
   generalize b.getD i []=w
   have hb:zq .i64 (·||| ·) (vv u (b.take i) w) 2=bt u 1 w+2:=by
    unfold vv
    have h1:bt u 1 w=0∨bt u 1 w=1:=by unfold bt;split<;>simp
    have h2:bt (b.take i) 2 w=0∨bt (b.take i) 2 w=2:=by unfold bt;split<;>simp
    rcases h1 with h1|h1<;>rcases h2 with h2|h2<;>rw[h1,h2]<;>decide
   have aR:bt u 1 w+2≠0:=by
    have h1:bt u 1 w=0∨bt u 1 w=1:=by unfold bt;split<;>simp
    omega
   have:=I9 (w:=w) (k:=2) h3 (by rw[hb];exact aR)
   rw[hb] at this
   have e:(fun q=>if q=w then bt u 1 w+2 else vv u (b.take i) q)=vv u (b.take i++[w]):=by
    funext q;simp only[vv,I_]
    by_cases hq:q=w
    ·subst hq;simp
    ·simp[hq]
   rw[e] at this;exact this
  ·have:=adg List.length (qH (m:=M) (k:=b.getD i []) (v:=zq .i64 (·||| ·) ((ft M (b.getD i [])).getD 0) 2))
   simp only[aa4] at this
   show(jl M (b.getD i []) _).length≤M0.length+(i+1)
   rw[this]
   split<;>simp<;>omega
noncomputable def cw(a b:List (List UInt8)):Bool:=(dP FU a b).getD false
theorem uI{a b:List (List UInt8)}(ha:a.length≤1000000000)(hb:b.length≤1000000000):∃ M:WM,wI M (vv a b)∧dP FU a b=some ((decide ((0:Int)<(M.length:Int)))&&(decide ((IntKind.i64.wrap ((3:Int)*(M.length:Int)))≤(IntKind.i64.wrap ((4:Int)*((M.countP (fun e=>decide (e.2=3)):Nat):Int)))))):=by
 obtain⟨M1,h1,h2,h3⟩:=MI (n:=FU) (a:=a) (by simp only[ML];omega) (by simp only[FU];omega)
 obtain⟨M,h4,h5,h6⟩:=MJ (n:=FU) (b:=b) h2 (by simp only[ML];omega) (by simp only[FU];omega)
 refine⟨M,h5,?_⟩
 unfold dP
 rw[h1,aaQ,h4,aaQ,D5 (p:=fun e=>decide (e.2=3)) (fun s e=>by
  unfold gz
  cases decide (e.2=3)<;>rfl) (by simp only[ML];omega)]
 rfl
theorem Ck{a b:List (List UInt8)}(ha:a.length≤1000000000)(hb:b.length≤1000000000):dP FU a b=some (cw a b):=by
 obtain⟨M,_,h⟩:=uI ha hb
 unfold cw
 rw[h];rfl
end
section
open Go
theorem FF(s:ByteArray)(pos:Nat)(h:pos<s.size):1≤(Utf8.decode s pos).2:=by
 by_cases ha:(s[pos]'h).toNat<128
 ·rw[decode_ascii s pos h ha]
  exact aaZ _
 ·exact(decode_high s pos h (by omega)).2
noncomputable def RH(s:List UInt8):List Int:=(dU FU s).getD []
theorem sH{s:List UInt8}(h:s.length≤1000000000):dU FU s=some (RH s)∧(RH s).length≤s.length:=by
 obtain⟨t,h1,h2⟩:=bF (σ:=List Int×Nat) (f:=fun x=>fJ FU s x.1 x.2) (I:=fun k x=>k=s.length-x.2∧x.1.length+(s.length-x.2)≤s.length) (Q:=fun t:List Int×Nat=>t.1.length≤s.length) (by
  rintro k ⟨l,p⟩ ⟨h1,h2⟩
  dsimp only at h1 h2
  simp only[fJ,UG,aaQ]
  by_cases hp:p<s.length
  ·left
   have hw:=FF ⟨s.toArray⟩ p (by simpa[ByteArray.size] using hp)
   simp only[aa2 hp]
   rw[tL (by omega) (by omega),aaQ,aa2 trivial]
   refine⟨_,s.length-(p+(Utf8.decode ⟨s.toArray⟩ p).2),rfl,by omega,rfl,?_⟩
   simp only[aa9,aen];omega
  ·right
   simp only[aa7 hp]
   exact⟨(l,p),rfl,by dsimp only;omega⟩) s.length FU ([],0) ⟨by simp,by simp⟩ (by simp only[FU];omega)
 have e:dU FU s=some t.1:=by
  unfold dU
  rw[h1];rfl
 unfold RH
 rw[e]
 exact⟨rfl,h2⟩
def dd(a b:List Int):Nat→Nat→Nat
 |0,j=>j
 |i+1,0=>i+1
 |i+1,j+1=>if a.getD i 0=b.getD j 0 then dd a b i j else 1+min (min (dd a b i j) (dd a b (i+1) j)) (dd a b i (j+1))
termination_by i j=>(i,j)
theorem wJ(a b:List Int)(j:Nat):dd a b 0 j=j:=by rw[dd]
theorem wK(a b:List Int)(i:Nat):dd a b i 0=i:=by cases i<;>rw[dd]
theorem D6(a b:List Int)(i j:Nat):dd a b (i+1) (j+1)=if a.getD i 0=b.getD j 0 then dd a b i j else 1+min (min (dd a b i j) (dd a b (i+1) j)) (dd a b i (j+1)):=by rw[dd]
theorem MK(a b:List Int):∀ (k i j:Nat),i+j≤k→dd a b i j≤i+j:=by
 intro k
 induction k with
 |zero=>intro i j h;obtain rfl:i=0:=by omega
        rw[wJ];omega
 |succ k ih=>
  intro i j h
  cases i with
  |zero=>rw[wJ];omega
  |succ i=>
   cases j with
   |zero=>rw[wK];omega
   |succ j=>
    rw[D6]
    have:=ih i j (by omega)
    split
    ·omega
    ·have h1:min (min (dd a b i j) (dd a b (i+1) j)) (dd a b i (j+1))≤dd a b i j:=abE (Nat.min_le_left _ _) (Nat.min_le_left _ _)
     omega
theorem P3{n m:Nat}{z:List Int}(hz:z.length=m+1)(hm:m≤1000000000)(hn:m+1<n):∃ r,iter n (fun s=>eh n z s.1 s.2) ((0:Int),z)=some r∧r.length=m+1∧∀ x,x≤m→r.getD x 0=(x:Int):=by
 refine bF (σ:=Int×List Int) (I:=fun k s=>∃ j:Nat,s.1=j∧j+k=m+1∧s.2.length=m+1∧∀ x,x<j→s.2.getD x 0=(x:Int)) (Q:=fun r:List Int=>r.length=m+1∧∀ x,x≤m→r.getD x 0=(x:Int)) ?_ (m+1) n _ ⟨0,rfl,by omega,hz,fun x hx=>by omega⟩ hn
 rintro k ⟨c,r⟩ ⟨j,h1,h2,h3,h4⟩
 dsimp only at h1 h3 h4
 subst h1
 simp only[eh,hz]
 by_cases hk:k=0
 ·right
  refine⟨r,by rw[aa7 (by simp;omega)],h3,fun x hx=>h4 x (by omega)⟩
 ·left
  rw[aa2 (by simp;omega),bz 0 (by omega),aaQ,lj (by omega) (by omega),aaQ,jT (by omega) (by omega)]
  refine⟨_,k-1,rfl,by omega,j+1,by simp,by omega,by simpa using h3,fun x hx=>?_⟩
  simp only[aa8]
  rw[jy _ _ _ _ _ (by omega)]
  split
  ·rename_i e;rw[e]
  ·exact h4 x (by omega)
theorem P4{n:Nat}{a b:List Int}{i:Nat}{r:List Int}(hr:r.length=b.length+1)(hb:b.length≤1000000000)(hi:i<a.length)(ha:a.length≤1000000000)(h0:r.getD 0 0=((i+1:Nat):Int))(k_:∀ x,0<x→x≤b.length→r.getD x 0=(dd a b i x:Nat))(hn:b.length<n):
  ∃ t,iter n (fun s=>dB n b (a.getD i 0) s.1 s.2.1 s.2.2) ((i:Int),(0:Int),r)=some t∧t.length=b.length+1∧∀ x,x≤b.length→t.getD x 0=(dd a b (i+1) x:Nat):=by
 refine bF (σ:=Int×Int×List Int) (I:=fun k s=>∃ j:Nat,s.2.1=j∧j+k=b.length∧s.2.2.length=b.length+1∧s.1=(dd a b i j:Nat)∧(∀ x,x≤j→s.2.2.getD x 0=(dd a b (i+1) x:Nat))∧∀ x,j<x→x≤b.length→s.2.2.getD x 0=(dd a b i x:Nat))
  (Q:=fun t:List Int=>t.length=b.length+1∧∀ x,x≤b.length→t.getD x 0=(dd a b (i+1) x:Nat)) ?_ b.length n _ ⟨0,rfl,by omega,hr,by simp[wK],fun x hx=>by
   obtain rfl:x=0:=by omega
   rw[wK];exact h0,fun x h1 h2=>k_ x h1 h2⟩ hn
 rintro k ⟨l,c,r⟩ ⟨j,h1,h2,h3,h4,h5,h6⟩
 dsimp only at h1 h3 h4 h5 h6
 subst h1 h4
 simp only[dB]
 by_cases hk:k=0
 ·right
  refine⟨r,by rw[aa7 (by simp;omega)],h3,fun x hx=>h5 x (by omega)⟩
 ·left
  have hj:j<b.length:=by omega
  have e1:IntKind.i64.wrap ((j:Int)+1)=((j+1:Nat):Int):=by rw[jT (by omega) (by omega)];omega
  have d1:=MK a b (i+j) i j (by omega)
  have d2:=MK a b (i+1+j) (i+1) j (by omega)
  have d3:=MK a b (i+(j+1)) i (j+1) (by omega)
  rw[aa2 (by simp;omega),e1,bz 0 hj,aaQ,bz (l:=r) 0 (show j<r.length by omega),bz (l:=r) 0 (show j+1<r.length by omega),h5 j (by omega),h6 (j+1) (by omega) (by omega)]
  simp only[aaQ]
  have hv:(if (!decide (a.getD i 0=b.getD j 0))=true then some (IntKind.i64.wrap (1+min (min ((dd a b i j:Nat):Int) ((dd a b (i+1) j:Nat):Int)) ((dd a b i (j+1):Nat):Int))) else some ((dd a b i j:Nat):Int):Option Int)=some ((dd a b (i+1) (j+1):Nat):Int):=by
   rw[D6]
   by_cases e:a.getD i 0=b.getD j 0
   ·rw[aa7 (by simp only[e,abo,abt];decide),aa2 e]
   ·rw[aa2 (by simp only[e,abx,abw]),aa7 e,jT (by omega) (by omega)]
    congr 1;omega
  rw[hv,aaQ,lj (by omega) (by omega),aaQ]
  refine⟨_,k-1,rfl,by omega,j+1,rfl,by omega,by simpa using h3,rfl,fun x hx=>?_,fun x hx IY=>?_⟩
  ·show(r.set ((j+1:Nat):Int).toNat _).getD x 0=_
   rw[aa8,jy _ _ _ _ _ (by omega)]
   split
   ·rename_i e;rw[e]
   ·exact h5 x (by omega)
  ·show(r.set ((j+1:Nat):Int).toNat _).getD x 0=_
   rw[aa8,jy _ _ _ _ _ (by omega),aa7 (by omega)]
   exact h6 x (by omega) IY
theorem FG{a b:List Int}(ha:a.length≤1000000000)(hb:b.length≤1000000000):fK FU a b=some ((dd a b a.length b.length:Nat):Int):=by
 unfold fK
 have e1:IntKind.i64.wrap ((b.length:Int)+1)=((b.length+1:Nat):Int):=by rw[jT (by omega) (by omega)];omega
 rw[e1,og (by omega) (by omega) (by omega),aaQ]
 obtain⟨r,h1,h2,h3⟩:=P3 (n:=FU) (m:=b.length) (z:=List.replicate ((b.length+1:Nat):Int).toNat 0) (by simp) hb (by simp only[FU];omega)
 rw[h1,aaQ]
 obtain⟨t,h4,h5,h6⟩:=bF (σ:=Int×List Int) (f:=fun s=>ei FU a b s.1 s.2) (I:=fun k s=>∃ i:Nat,s.1=i∧i+k=a.length∧s.2.length=b.length+1∧∀ x,x≤b.length→s.2.getD x 0=(dd a b i x:Nat))
  (Q:=fun t:List Int=>t.length=b.length+1∧∀ x,x≤b.length→t.getD x 0=(dd a b a.length x:Nat)) (by
  rintro k ⟨c,r⟩ ⟨i,h1,h2,h3,h4⟩
  dsimp only at h1 h3 h4
  subst h1
  simp only[ei]
  by_cases hk:k=0
  ·right
   have e0:i=a.length:=by omega
   subst e0
   exact⟨r,by rw[aa7 (by simp)],h3,h4⟩
  ·left
   have hi:i<a.length:=by omega
   have e1:IntKind.i64.wrap ((i:Int)+1)=((i+1:Nat):Int):=by rw[jT (by omega) (by omega)];omega
   have g0:=h4 0 (by omega)
   rw[wK] at g0
   have g1:ix r 0=some ((i:Nat):Int):=by rw[←g0];exact bz (l:=r) (i:=0) 0 (by omega)
   rw[aa2 (by simp;omega),e1,bz 0 hi,aaQ,g1]
   simp only[aaQ]
   rw[lj (by omega) (by omega),aaQ]
   obtain⟨t,q1,q2,q3⟩:=P4 (n:=FU) (a:=a) (b:=b) (i:=i) (r:=r.set 0 ((i+1:Nat):Int)) (by simpa using h3) hb hi ha (by rw[jy _ _ _ _ _ (by omega),aa2 rfl]) (fun x hx IY=>by
    rw[jy _ _ _ _ _ (by omega),aa7 (by omega)];exact h4 x IY) (by simp only[FU];omega)
   have XL:iter FU (fun s=>dB FU b (a.getD i 0) s.1 s.2.1 s.2.2) ((i:Int),(0:Int),r.set (0:Int).toNat ((i+1:Nat):Int))=some t:=q1
   rw[XL,aaQ]
   exact⟨_,k-1,rfl,by omega,i+1,rfl,by omega,q2,q3⟩) a.length FU ((0:Int),r) ⟨0,rfl,by omega,h2,fun x hx=>by rw[wJ];exact h3 x hx⟩ (by simp only[FU];omega)
 rw[h4,aaQ,bz 0 (by omega),aaQ,aaQ,h6 _ (aaZ _)]
noncomputable def nr(a b:List UInt8):Bool:=decide (dd (RH a) (RH b) (RH a).length (RH b).length≤2)
theorem I'{a b:List UInt8}(ha:a.length≤1000000000)(hb:b.length≤1000000000):jq FU a b=some (nr a b):=by
 obtain⟨c1,l1⟩:=sH ha
 obtain⟨c2,l2⟩:=sH hb
 unfold jq mh nr
 rw[c1,aaQ,c2,aaQ,FG (by omega) (by omega)]
 simp only[aaQ]
 congr 1
 rw[abH];omega
end
section
open Go
theorem tM{n:Nat}{l:List Int}{a:Int}(hl:l.length≤ML)(hn:l.length<n):bW n l a=some (l.any fun y=>decide (a=y)):=
 cK n l (fun y=>some (decide (a=y))) (fun y=>decide (a=y)) (fun _ _=>rfl) hl hn
theorem Kx{n:Nat}{l:List (List UInt8)}{a:List UInt8}(hl:l.length≤ML)(hn:l.length<n):dp n l a=some (l.any fun y=>decide (a=y)):=
 cK n l (fun y=>some (decide (a=y))) (fun y=>decide (a=y)) (fun _ _=>rfl) hl hn
def tN{α:Type}[DecidableEq α](a b:List α):Bool:=a.any fun x=>b.any fun y=>decide (x=y)
theorem D7{α:Type}[DecidableEq α]{a b:List α}:tN a b=true↔∃ x,x∈a∧x∈b:=by
 unfold tN
 simp only[acd,abe]
 exact⟨fun⟨x,hx,y,hy,e⟩=>⟨x,hx,e▸hy⟩,fun⟨x,hx,hy⟩=>⟨x,hx,x,hy,rfl⟩⟩
theorem P5{n:Nat}{a b:List Int}(ha:a.length≤ML)(hb:b.length≤ML)(na:a.length<n)(nb:b.length<n):gj n a b=some (tN a b):=by
 unfold gj
 have e:a_ n a (fun y1=>dV n y1 b)=some (tN a b):=
  cK n a (fun y1=>dV n y1 b) (fun x=>b.any fun y=>decide (x=y)) (fun x _=>by unfold dV;rw[tM hb nb];rfl) ha na
 rw[e];rfl
theorem D8{n:Nat}{a b:List (List UInt8)}(ha:a.length≤ML)(hb:b.length≤ML)(na:a.length<n)(nb:b.length<n):cX n a b=some (tN a b):=by
 unfold cX
 have e:bx n a (fun y1=>dh n y1 b)=some (tN a b):=
  cK n a (fun y1=>dh n y1 b) (fun x=>b.any fun y=>decide (x=y)) (fun x _=>by unfold dh;rw[Kx hb nb];rfl) ha na
 rw[e];rfl
def OU(a b:List Int):Bool:=a.any fun x=>b.any (fun y=>decide (IntKind.i64.wrap (x-1)=y))||b.any (fun y=>decide (IntKind.i64.wrap (x+1)=y))
theorem Cl{n:Nat}{a b:List Int}(ha:a.length≤ML)(hb:b.length≤ML)(na:a.length<n)(nb:b.length<n):gk n a b=some (OU a b):=by
 unfold gk
 have e:a_ n a (fun y1=>dW n y1 b)=some (OU a b):=
  cK n a (fun y1=>dW n y1 b) (fun x=>b.any (fun y=>decide (IntKind.i64.wrap (x-1)=y))||b.any (fun y=>decide (IntKind.i64.wrap (x+1)=y))) (fun x _=>by
   unfold dW
   rw[tM hb nb,tM hb nb]
   cases b.any (fun y=>decide (IntKind.i64.wrap (x-1)=y))<;>simp) ha na
 rw[e];rfl
theorem P6{a b:List Int}(h:∀ x∈a,1000≤x∧x≤2999):OU a b=true↔∃ x∈a,∃ y∈b,x=y+1∨y=x+1:=by
 unfold OU
 simp only[acd,abU,abe]
 constructor
 ·rintro⟨x,hx,⟨y,hy,e⟩|⟨y,hy,e⟩⟩
  ·have:=h x hx
   rw[jT (by omega) (by omega)] at e
   exact⟨x,hx,y,hy,.inl (by omega)⟩
  ·have:=h x hx
   rw[jT (by omega) (by omega)] at e
   exact⟨x,hx,y,hy,.inr (by omega)⟩
 ·rintro⟨x,hx,y,hy,e|e⟩
  ·have:=h x hx
   exact⟨x,hx,.inl ⟨y,hy,by rw[jT (by omega) (by omega)];omega⟩⟩
  ·have:=h x hx
   exact⟨x,hx,.inr ⟨y,hy,by rw[jT (by omega) (by omega)];omega⟩⟩
theorem FH{α:Type}{a b:List α}(d:α)(hl:a.length=b.length)(h:∀ i,i<a.length→a.getD i d=b.getD i d):a=b:=by
 apply aee hl
 intro i h1 h2
 have:=h i h1
 simpa[h1,h2] using this
theorem equalS{n:Nat}{a b:List (List UInt8)}(ha:a.length≤ML)(na:a.length<n):bH n a b=some (decide (a=b)):=by
 unfold bH
 by_cases hl:a.length=b.length
 ·rw[aa7 (by simp;omega),fh (ρ:=Bool⊕Unit) a.length n (fun i=>!decide (a.getD i []=b.getD i [])) (.inl false) (.inr ()) (fun j hj=>by
   unfold ca
   rw[aa2 (by simp;omega),bz [] hj,aaQ,bz [] (by omega),aaQ,cv hj ha]
   split<;>rfl) (by unfold ca;simp) na]
  cases hb:gQ a.length (fun i=>!decide (a.getD i []=b.getD i [])) with
  |true=>
   obtain⟨i,_,h2⟩:=mW.1 hb
   have:¬a=b:=by rintro rfl;simp at h2
   simp[this]
  |false=>
   have h:=uZ.1 hb
   have:a=b:=FH [] hl (fun i hi=>by have:=h i hi;simpa using this)
   simp[this]
 ·have:¬a=b:=by rintro rfl;exact hl rfl
  rw[aa2 (by simp;omega)];simp[this]
def y7(a b:Bool):Int:=if a=true then 1 else if b=true then 2 else 3
theorem HQ{n:Nat}{a b:Bool}:dw n a b=some (y7 a b):=by cases a<;>cases b<;>rfl
structure FV(f:af):Prop where
 t:f.bf.length≤200
 tw:∀ w∈f.bf,w.length≤400
 a:f.aM.length≤420
 y:f.ba.length≤20
 yr:∀ x∈f.ba,1000≤x∧x≤2999
 i:f.bN.length≤20
 l:f.bO.length≤20
 p:f.aw.length≤200
 e:f.bh.length≤200
theorem wL{f:af}(h:fv f=true):FV f:=by
 simp only[fv,aaT,abe,UJ] at h
 obtain⟨⟨⟨⟨⟨⟨⟨⟨⟨⟨_,_⟩,h1⟩,h2⟩,h3⟩,h4⟩,h5⟩,h6⟩,h7⟩,h8⟩,h9⟩:=h
 refine⟨h1,fun w hw=>?_,h3.1.1,h4,fun x hx=>?_,h6.1.1,h7.1.1,h8.1.1,h9.1.1⟩
 ·have:=abi.1 h2 w hw
  simp only[zV,aaT,abe] at this
  exact this.1.2
 ·unfold RF at h5
  rw[abC] at h5
  obtain⟨i,hi,rfl⟩:=acn hx
  have:=uZ.1 h5 i hi
  simp only[Bool.or_eq_false_iff,ad1,aaT,abe] at this
  have e:f.ba.getD i 0=f.ba[i]:=by simp[hi]
  rw[e] at this
  exact this.1
theorem Ja{m:Nat}:∀ {l:List (List UInt8)},(∀ w∈l,w.length≤m)→Lib.lens l≤l.length*m
 |[],_=>by simp[Lib.lens]
 |x::l,h=>by
  have h1:=h x (abr ..)
  have h2:=Ja (m:=m) (l:=l) (fun w hw=>h w (aby _ hw))
  have h3:Lib.lens (x::l)=x.length+Lib.lens l:=by simp[Lib.lens]
  rw[h3,abp,Nat.succ_mul];omega
def jn(l:List (List UInt8)):List UInt8:=Lib.join l [32]
theorem xW{l:List (List UInt8)}(h:l.length≤200)(hw:∀ w∈l,w.length≤400):(jn l).length≤100000:=by
 unfold jn
 cases l with
 |nil=>simp[Lib.join_nil]
 |cons x r=>
  rw[Lib.join_length]
  have h1:=Ja hw
  have h2:=abg 400 h
  simp only[abp,ada] at *
  omega
theorem FI{l:List (List UInt8)}(h:l.length≤200)(hw:∀ w∈l,w.length≤400):CY l [32]=some (jn l):=by
 unfold CY
 have:=xW h hw
 unfold jn at *
 rw[aa2 ⟨by omega,by omega⟩]
noncomputable def cT(a b:List (List UInt8)):Int:=if 0<a.length∧0<b.length then y7 (decide (a=b)) (cw a b||nr (jn a) (jn b)) else 0
noncomputable def cA(a b:List UInt8):Int:=if a≠[]∧b≠[] then y7 (decide (a=b)) (nr a b) else 0
def cY(a b:List Int):Int:=if 0<a.length∧0<b.length then y7 (tN a b) (OU a b) else 0
def cS(a b:List (List UInt8)):Int:=if 0<a.length∧0<b.length then y7 (tN a b) false else 0
def cP(a b:List (List UInt8)):Int:=if 0<a.length∧0<b.length then y7 (decide (a=b)) (tN a b) else 0
def cE(a b:List (List UInt8)):Int:=if 0<a.length∧0<b.length then y7 (decide (a=b)) false else 0
noncomputable def cmp(f g:af):A7:=⟨cT f.bf g.bf,cA f.aM g.aM,cY f.ba g.ba,cS f.bN g.bN,cS f.bO g.bO,cP f.aw g.aw,cE f.bh g.bh⟩
theorem P7{a b:Nat}:(decide ((0:Int)<(a:Int))&&decide ((0:Int)<(b:Int)))=decide (0<a∧0<b):=by
 rw[abG];simp only[aaT,abe];omega
theorem HR{f g:af}(hf:I7 f)(hg:I7 g):jz FU f g=some (if (fv f&&fv g)=true then (cmp f g,0) else (⟨0,0,0,0,0,0,0⟩,1)):=by
 have lt:∀ {k:Nat},k≤ML→k<FU:=fun hk=>ab_ hk (by decide)
 have vf:=uY (n:=FU) hf (by decide)
 have vg:=uY (n:=FU) hg (by decide)
 unfold jz
 rw[show dN FU (⟨f.nU,f.bf,f.aM,f.ba,f.bN,f.bO,f.aw,f.bh⟩:af)=some (fv f) from vf,show dN FU (⟨g.nU,g.bf,g.aM,g.ba,g.bN,g.bO,g.aw,g.bh⟩:af)=some (fv g) from vg]
 simp only[aaQ]
 cases YS:fv f with
 |false=>simp
 |true=>
  cases YT:fv g with
  |false=>simp
  |true=>
   have F:=wL YS
   have G:=wL YT
   simp only[abt,abw,abh,aaQ,aco,aaU,abb,ac0]
   have M3:∀ {k:Nat},k≤1000→k≤ML:=fun h=>abE h (by decide)
   rw[equalS hf.t.1 (lt hf.t.1),Ck (by have:=F.t;omega) (by have:=G.t;omega),FI F.t F.tw,FI G.t G.tw,P5 hf.y hg.y (lt hf.y) (lt hg.y),Cl hf.y hg.y (lt hf.y) (lt hg.y),D8 hf.i.1 hg.i.1 (lt hf.i.1) (lt hg.i.1),D8 hf.l.1 hg.l.1 (lt hf.l.1) (lt hg.l.1),D8 hf.p.1 hg.p.1 (lt hf.p.1) (lt hg.p.1),equalS hf.p.1 (lt hf.p.1),equalS hf.e.1 (lt hf.e.1),I' (by have:=F.a;omega) (by have:=G.a;omega)]
   simp only[aaQ,HQ,P7]
   have jf:=xW F.t F.tw
   have jg:=xW G.t G.tw
   have hT:(if decide (0<f.bf.length∧0<g.bf.length)=true then
     ((if (!cw f.bf g.bf)=true then some (jn f.bf) else some default:Option (List UInt8))).bind fun v7=>((if (!cw f.bf g.bf)=true then some (jn g.bf) else some default:Option (List UInt8))).bind fun v8=>
     ((if (!cw f.bf g.bf)=true then jq FU v7 v8 else some default)).bind fun v9=>some (⟨y7 (decide (f.bf=g.bf)) (cw f.bf g.bf||v9),0,0,0,0,0,0⟩:A7)
     else some (⟨0,0,0,0,0,0,0⟩:A7):Option A7)=some ⟨cT f.bf g.bf,0,0,0,0,0,0⟩:=by
    unfold cT
    by_cases h:0<f.bf.length∧0<g.bf.length
    ·rw[aa2 (abm h),aa2 h]
     cases hc:cw f.bf g.bf with
     |true=>rfl
     |false=>
      simp only[abw,abh,aaQ,I' (show(jn f.bf).length≤1000000000 by omega) (show(jn g.bf).length≤1000000000 by omega)]
    ·rw[aa7 (by simpa using h),aa7 h]
   rw[hT]
   simp only[aaQ]
   have hA:∀ x0:Int,(if (!decide (f.aM=[])&&!decide (g.aM=[]))=true then some (⟨x0,y7 (decide (f.aM=g.aM)) (nr f.aM g.aM),0,0,0,0,0⟩:A7) else some ⟨x0,0,0,0,0,0,0⟩:Option A7)=some ⟨x0,cA f.aM g.aM,0,0,0,0,0⟩:=by
    intro x0
    unfold cA
    by_cases h:f.aM=[]
    ·simp[h]
    ·by_cases h2:g.aM=[]
     ·simp[h2]
     ·simp[h,h2]
   rw[hA]
   simp only[aaQ]
   have MM:∀ (c:Prop) [Decidable c] (x:Int) (F:Int→A7),(if decide c=true then some (F x) else some (F 0):Option A7)=some (F (if c then x else 0)):=by
    intro c _ x F
    by_cases h:c<;>simp[h]
   have hY:∀ x0 x1:Int,(if decide (0<f.ba.length∧0<g.ba.length)=true then some (⟨x0,x1,y7 (tN f.ba g.ba) (OU f.ba g.ba),0,0,0,0⟩:A7) else some ⟨x0,x1,0,0,0,0,0⟩:Option A7)=some ⟨x0,x1,cY f.ba g.ba,0,0,0,0⟩:=by
    intro x0 x1
    have q:=MM (0<f.ba.length∧0<g.ba.length) (y7 (tN f.ba g.ba) (OU f.ba g.ba)) (fun v=>(⟨x0,x1,v,0,0,0,0⟩:A7))
    exact q
   rw[hY]
   simp only[aaQ]
   have hI:∀ x0 x1 x2:Int,(if decide (0<f.bN.length∧0<g.bN.length)=true then some (⟨x0,x1,x2,y7 (tN f.bN g.bN) false,0,0,0⟩:A7) else some ⟨x0,x1,x2,0,0,0,0⟩:Option A7)=some ⟨x0,x1,x2,cS f.bN g.bN,0,0,0⟩:=by
    intro x0 x1 x2
    have q:=MM (0<f.bN.length∧0<g.bN.length) (y7 (tN f.bN g.bN) false) (fun v=>(⟨x0,x1,x2,v,0,0,0⟩:A7))
    exact q
   rw[hI]
   simp only[aaQ]
   have hL:∀ x0 x1 x2 x3:Int,(if decide (0<f.bO.length∧0<g.bO.length)=true then some (⟨x0,x1,x2,x3,y7 (tN f.bO g.bO) false,0,0⟩:A7) else some ⟨x0,x1,x2,x3,0,0,0⟩:Option A7)=some ⟨x0,x1,x2,x3,cS f.bO g.bO,0,0⟩:=by
    intro x0 x1 x2 x3
    have q:=MM (0<f.bO.length∧0<g.bO.length) (y7 (tN f.bO g.bO) false) (fun v=>(⟨x0,x1,x2,x3,v,0,0⟩:A7))
    exact q
   rw[hL]
   simp only[aaQ]
   have hP:∀ x0 x1 x2 x3 x4:Int,(if decide (0<f.aw.length∧0<g.aw.length)=true then some (⟨x0,x1,x2,x3,x4,y7 (decide (f.aw=g.aw)) (tN f.aw g.aw),0⟩:A7) else some ⟨x0,x1,x2,x3,x4,0,0⟩:Option A7)=some ⟨x0,x1,x2,x3,x4,cP f.aw g.aw,0⟩:=by
    intro x0 x1 x2 x3 x4
    have q:=MM (0<f.aw.length∧0<g.aw.length) (y7 (decide (f.aw=g.aw)) (tN f.aw g.aw)) (fun v=>(⟨x0,x1,x2,x3,x4,v,0⟩:A7))
    exact q
   rw[hP]
   simp only[aaQ]
   have hE:∀ x0 x1 x2 x3 x4 x5:Int,(if decide (0<f.bh.length∧0<g.bh.length)=true then some (⟨x0,x1,x2,x3,x4,x5,y7 (decide (f.bh=g.bh)) false⟩:A7) else some ⟨x0,x1,x2,x3,x4,x5,0⟩:Option A7)=some ⟨x0,x1,x2,x3,x4,x5,cE f.bh g.bh⟩:=by
    intro x0 x1 x2 x3 x4 x5
    have q:=MM (0<f.bh.length∧0<g.bh.length) (y7 (decide (f.bh=g.bh)) false) (fun v=>(⟨x0,x1,x2,x3,x4,x5,v⟩:A7))
    exact q
   rw[hE]
   simp only[aaQ]
   rfl
end
section
open Go
def WK:ej:=⟨⟨⟨20,1⟩,⟨6,1⟩,⟨1,12⟩⟩,⟨⟨12,1⟩,⟨4,1⟩,⟨1,20⟩⟩,⟨⟨2,1⟩,⟨3,2⟩,⟨4,5⟩⟩,⟨⟨100,1⟩,⟨1,1⟩,⟨3,4⟩⟩,⟨⟨3,2⟩,⟨1,1⟩,⟨1,2⟩⟩,⟨⟨6,5⟩,⟨1,1⟩,⟨9,10⟩⟩,⟨⟨1,1⟩,⟨1,1⟩,⟨1,1⟩⟩⟩
theorem MN:nV FU=some WK:=by decide+kernel
def FJ(m:ej):Bool:=m.l.all fun r=>rh r.l
theorem MO(m:ej):jW FU m=some (FJ m):=by
 unfold jW
 have e:bA FU m.l (fun y1=>gC FU y1)=some (m.l.any fun r=>!rh r.l):=
  cK FU m.l (fun y1=>gC FU y1) (fun r=>!rh r.l) (fun r _=>by
   unfold gC;rw[Bb (l:=r.l) (show 3≤ML by decide) (show 3<FU by decide)];rfl) (show 7≤ML by decide) (show 7<FU by decide)
 rw[e,aaQ]
 congr 1
 unfold FJ
 rw[List.all_eq_not_any_not]
theorem Ky(r:A3):rh r.l=(rh [r.e0]&&rh [r.e1]&&rh [r.e2]):=by
 simp[rh,A3.l,aew]
theorem FK(m:ej):jX FU m=some (FJ m):=by
 have row:∀ i:Nat,i<7→iter FU (fun s=>fV FU m i s) (0:Int)=some (if gQ 3 (fun k=>!rh [(m.l.getD i default).l.getD k default])=true then .inl false else .inr ()):=by
  intro i hi
  refine fh (ρ:=Bool⊕Unit) 3 FU _ (.inl false) (.inr ()) (fun j hj=>?_) (by unfold fV;simp) (by decide)
  unfold fV
  rw[aa2 (by simp;omega),bz default (by simpa[ej.l] using hi),aaQ,bz default (by simpa[A3.l] using hj),aaQ,y8 (l:=[_]) (show 1≤ML by decide) (show 1<FU by decide),aaQ,cv hj (by decide)]
  split<;>rfl
 unfold jX
 rw[fh (ρ:=Bool⊕Unit) 7 FU (fun i=>gQ 3 fun k=>!rh [(m.l.getD i default).l.getD k default]) (.inl false) (.inr ()) (fun j hj=>by
  unfold iA
  rw[aa2 (by simp;omega),row j hj,aaQ,cv hj (by decide)]
  cases gQ 3 (fun k=>!rh [(m.l.getD j default).l.getD k default])<;>rfl) (by unfold iA;simp) (by decide)]
 have e:FJ m=!gQ 7 (fun i=>gQ 3 fun k=>!rh [(m.l.getD i default).l.getD k default]):=by
  have e1:∀ i,(gQ 3 fun k=>!rh [(m.l.getD i default).l.getD k default])=!rh (m.l.getD i default).l:=by
   intro i
   rw[Ky]
   generalize m.l.getD i default=r
   simp[gQ,A3.l,List.range_succ,Bool.or_assoc]
  have e2:=jY m.l default (fun r=>!rh r.l)
  have e3:m.l.length=7:=rfl
  rw[e3] at e2
  have e4:gQ 7 (fun i=>gQ 3 fun k=>!rh [(m.l.getD i default).l.getD k default])=gQ 7 (fun i=>!rh (m.l.getD i default).l):=HS (fun i _=>e1 i)
  rw[e4,e2]
  unfold FJ
  rw[List.all_eq_not_any_not]
 rw[e]
 cases gQ 7 (fun i=>gQ 3 fun k=>!rh [(m.l.getD i default).l.getD k default])<;>rfl
end
section
open Go
def fz:List A3→List Int→List ah
 |r::rs,o::os=>(if o=0 then [] else [r.l.getD (o-1).toNat default])++fz rs os
 |_,_=>[]
theorem MP:∀ (rs:List A3) (os:List Int),(fz rs os).length≤rs.length
 |[],_=>by simp[fz]
 |_::_,[]=>by simp[fz]
 |r::rs,o::os=>by
  have:=MP rs os
  simp only[fz,aa9,abp]
  split<;>simp<;>omega
theorem Jb{rs:List A3}{os:List Int}{i:Nat}(h1:i<rs.length)(h2:i<os.length):fz (rs.drop i) (os.drop i)=(if os.getD i 0=0 then [] else [(rs.getD i default).l.getD (os.getD i 0-1).toNat default])++fz (rs.drop (i+1)) (os.drop (i+1)):=by
 rw[ab7 h1,ab7 h2,fz]
 simp[h1,h2]
def CZ(o:A7):Bool:=o.l.all fun x=>decide (0≤x)&&decide (x≤3)
theorem zX{o:A7}:CZ o=true↔∀ x∈o.l,0≤x∧x≤3:=by simp[CZ]
def GU(m:ej)(o:A7):List ah:=fz m.l o.l
theorem P8(m:ej)(o:A7):(GU m o).length≤7:=MP m.l o.l
theorem P9:∀ {r:A3},rh r.l=true→∀ x∈r.l,LD x=true:=by
 intro r h x hx
 simp only[rh,aaT] at h
 exact abi.1 h.2 x hx
theorem MQ:∀ {rs:List A3} {os:List Int},(∀ r∈rs,rh r.l=true)→(∀ x∈os,0≤x∧x≤3)→∀ x∈fz rs os,LD x=true
 |[],_,_,_,x,hx=>by simp[fz] at hx
 |_::_,[],_,_,x,hx=>by simp[fz] at hx
 |r::rs,o::os,h1,h2,x,hx=>by
  simp only[fz,ab'] at hx
  rcases hx with hx|hx
  ·split at hx
   ·cases hx
   ·simp only[ab0] at hx
    have ho:=h2 o (abr ..)
    subst hx
    refine P9 (h1 r (abr ..)) _ ?_
    have hk:(o-1).toNat<3:=by omega
    simp only[abz]
    rw[aaV (by simpa[A3.l] using hk)]
    exact acb _
  ·exact MQ (fun r hr=>h1 r (aby _ hr)) (fun y hy=>h2 y (aby _ hy)) x hx
theorem Jc{m:ej}{o:A7}(hm:FJ m=true)(ho:CZ o=true):rh (GU m o)=true:=by
 have h1:=P8 m o
 simp only[rh,aaT,abe]
 exact⟨by omega,abi.2 (MQ (fun r hr=>abi.1 hm r hr) (zX.1 ho))⟩
theorem D9{n:Nat}{m:ej}{o:A7}(ho:CZ o=true)(hn:10<n):iter n (fun s=>eM n m o s.1 s.2) ([],(0:Int))=some (GU m o):=by
 have h:=zX.1 ho
 obtain⟨t,h1,h2⟩:=bF (σ:=List ah×Int) (f:=fun s=>eM n m o s.1 s.2) (I:=fun k s=>∃ i:Nat,s.2=i∧i+k=7∧s.1.length≤i∧s.1++fz (m.l.drop i) (o.l.drop i)=GU m o) (Q:=fun t:List ah=>t=GU m o) (by
  rintro k ⟨l,c⟩ ⟨i,h1,h2,h3,h4⟩
  dsimp only at h1 h3 h4
  subst h1
  simp only[eM]
  by_cases hk:k=0
  ·right
   have e0:i=7:=by omega
   subst e0
   refine⟨l,by simp,?_⟩
   rw[acI (by simp[ej.l]),acI (by simp[A7.l])] at h4
   simpa[fz] using h4
  ·left
   have hi:i<7:=by omega
   have ho:i<o.l.length:=by simpa[A7.l] using hi
   have hm:i<m.l.length:=by simpa[ej.l] using hi
   rw[aa2 (by simp;omega),bz 0 ho,aaQ,bz default hm,aaQ,cv hi (by decide)]
   rw[Jb hm ho] at h4
   have hx:=h (o.l.getD i 0) (by simp[ho])
   generalize o.l.getD i 0=x at *
   by_cases sb:x=0
   ·subst sb
    simp only[aa2,acU] at h4
    exact⟨(l,((i+1:Nat):Int)),k-1,by simp,by omega,i+1,rfl,by omega,by show l.length≤i+1;omega,h4⟩
   ·simp only[aa7 sb] at h4
    rw[aa2 (by simp[sb]),jT (by omega) (by omega),Bc default (by omega) (by show x-1<((3:Nat):Int);omega),aaQ,tL (by omega) (by omega),aaQ,aaQ]
    exact⟨_,k-1,rfl,by omega,i+1,rfl,by omega,by simp;omega,by rw[←h4];simp⟩) 7 n ([],0) ⟨0,rfl,rfl,by simp,by simp[GU]⟩ (by omega)
 rw[h1,h2]
theorem HT(m:ej)(o:A7):gD FU m o=some (if (FJ m&&CZ o)=true then (GU m o,0) else ([],1)):=by
 unfold gD
 rw[show jW FU (⟨(⟨(⟨m.e0.e0.aS,m.e0.e0.aU⟩:ah),(⟨m.e0.e1.aS,m.e0.e1.aU⟩:ah),(⟨m.e0.e2.aS,m.e0.e2.aU⟩:ah)⟩:A3),(⟨(⟨m.e1.e0.aS,m.e1.e0.aU⟩:ah),(⟨m.e1.e1.aS,m.e1.e1.aU⟩:ah),(⟨m.e1.e2.aS,m.e1.e2.aU⟩:ah)⟩:A3),(⟨(⟨m.e2.e0.aS,m.e2.e0.aU⟩:ah),(⟨m.e2.e1.aS,m.e2.e1.aU⟩:ah),(⟨m.e2.e2.aS,m.e2.e2.aU⟩:ah)⟩:A3),(⟨(⟨m.e3.e0.aS,m.e3.e0.aU⟩:ah),(⟨m.e3.e1.aS,m.e3.e1.aU⟩:ah),(⟨m.e3.e2.aS,m.e3.e2.aU⟩:ah)⟩:A3),(⟨(⟨m.e4.e0.aS,m.e4.e0.aU⟩:ah),(⟨m.e4.e1.aS,m.e4.e1.aU⟩:ah),(⟨m.e4.e2.aS,m.e4.e2.aU⟩:ah)⟩:A3),(⟨(⟨m.e5.e0.aS,m.e5.e0.aU⟩:ah),(⟨m.e5.e1.aS,m.e5.e1.aU⟩:ah),(⟨m.e5.e2.aS,m.e5.e2.aU⟩:ah)⟩:A3),(⟨(⟨m.e6.e0.aS,m.e6.e0.aU⟩:ah),(⟨m.e6.e1.aS,m.e6.e1.aU⟩:ah),(⟨m.e6.e2.aS,m.e6.e2.aU⟩:ah)⟩:A3)⟩:ej)=some (FJ m) from MO m]
 have e:a_ FU o.l (fun y1=>fw FU y1)=some (!CZ o):=by
  have h:a_ FU o.l (fun y1=>fw FU y1)=some (o.l.any fun x=>decide (x<0)||decide (3<x)):=
   cK FU o.l (fun y1=>fw FU y1) (fun x=>decide (x<0)||decide (3<x)) (fun x _=>rfl) (show 7≤ML by decide) (show 7<FU by decide)
  rw[h]
  congr 1
  unfold CZ
  rw[acs]
  congr 1
  funext x
  rw[abG];simp<;>omega
 simp only[aaQ]
 cases hm:FJ m with
 |false=>simp
 |true=>
  simp only[abt,abw,abh,ab5,ab1,e,aaQ]
  cases ho:CZ o with
  |false=>simp
  |true=>
   simp only[abt,aaU,abb,abh]
   rw[D9 ho (by decide)];rfl
noncomputable def wt(l:List ah):Int:=((hF FU l).getD (0,0)).1
theorem RI{l:List ah}(h:rh l=true):hF FU l=some (wt l,0)∧Kz (pn l^8) (pd l^8) (wt l)∧-960≤wt l∧wt l≤960:=by
 obtain⟨w,h1,h2,h3,h4⟩:=FL h fu4
 unfold wt
 rw[h1]
 exact⟨rfl,h2,h3,h4⟩
theorem KA(m:ej)(o:A7):kH FU m o=some (if (FJ m&&CZ o)=true then (wt (GU m o),0) else (0,1)):=by
 unfold kH
 rw[show gD FU (⟨(⟨(⟨m.e0.e0.aS,m.e0.e0.aU⟩:ah),(⟨m.e0.e1.aS,m.e0.e1.aU⟩:ah),(⟨m.e0.e2.aS,m.e0.e2.aU⟩:ah)⟩:A3),(⟨(⟨m.e1.e0.aS,m.e1.e0.aU⟩:ah),(⟨m.e1.e1.aS,m.e1.e1.aU⟩:ah),(⟨m.e1.e2.aS,m.e1.e2.aU⟩:ah)⟩:A3),(⟨(⟨m.e2.e0.aS,m.e2.e0.aU⟩:ah),(⟨m.e2.e1.aS,m.e2.e1.aU⟩:ah),(⟨m.e2.e2.aS,m.e2.e2.aU⟩:ah)⟩:A3),(⟨(⟨m.e3.e0.aS,m.e3.e0.aU⟩:ah),(⟨m.e3.e1.aS,m.e3.e1.aU⟩:ah),(⟨m.e3.e2.aS,m.e3.e2.aU⟩:ah)⟩:A3),(⟨(⟨m.e4.e0.aS,m.e4.e0.aU⟩:ah),(⟨m.e4.e1.aS,m.e4.e1.aU⟩:ah),(⟨m.e4.e2.aS,m.e4.e2.aU⟩:ah)⟩:A3),(⟨(⟨m.e5.e0.aS,m.e5.e0.aU⟩:ah),(⟨m.e5.e1.aS,m.e5.e1.aU⟩:ah),(⟨m.e5.e2.aS,m.e5.e2.aU⟩:ah)⟩:A3),(⟨(⟨m.e6.e0.aS,m.e6.e0.aU⟩:ah),(⟨m.e6.e1.aS,m.e6.e1.aU⟩:ah),(⟨m.e6.e2.aS,m.e6.e2.aU⟩:ah)⟩:A3)⟩:ej) (⟨o.e0,o.e1,o.e2,o.e3,o.e4,o.e5,o.e6⟩:A7)=_ from HT m o,aaQ]
 cases hm:FJ m with
 |false=>simp
 |true=>
  cases ho:CZ o with
  |false=>simp
  |true=>simp[(RI (Jc hm ho)).1]
end
end Go.Proofs.YtjdnbobilgamdaaGreatDoor.Ab.um
end
section
namespace Go.Proofs.YtjdnbobilgamdaaGreatDoor.Ab.um
open Go
theorem FY(m:ej)(o:A7):iter FU (fun s=>eN FU m o s.1 s.2) ([],(0:Int))=some (if CZ o=true then .inr (GU m o) else .inl ([],1)):=by
 obtain⟨t,h1,h2⟩:=bF (σ:=List ah×Int) (f:=fun s=>eN FU m o s.1 s.2) (I:=fun k s=>∃ i:Nat,s.2=i∧i+k=7∧s.1.length≤i∧(∀ j,j<i→0≤o.l.getD j 0∧o.l.getD j 0≤3)∧s.1++fz (m.l.drop i) (o.l.drop i)=GU m o) (Q:=fun t:((List ah)×Int)⊕(List ah)=>t=if CZ o=true then .inr (GU m o) else .inl ([],1)) (by
  rintro k ⟨l,c⟩ ⟨i,h1,h2,h3,h5,h4⟩
  dsimp only at h1 h3 h4
  subst h1
  simp only[eN]
  by_cases hk:k=0
  ·right
   have e0:i=7:=by omega
   subst e0
   refine⟨.inr l,by simp,?_⟩
   rw[acI (by simp[ej.l]),acI (by simp[A7.l])] at h4
   have ho:CZ o=true:=zX.2 fun x hx=>by
    obtain⟨j,hj,rfl⟩:=acn hx
    have:=h5 j (by simpa[A7.l] using hj)
    simpa[hj] using this
   rw[aa2 ho]
   simpa[fz] using h4
  ·have hi:i<7:=by omega
   have ho:i<o.l.length:=by simpa[A7.l] using hi
   have hm:i<m.l.length:=by simpa[ej.l] using hi
   rw[aa2 (by simp;omega),bz 0 ho,aaQ,bz default hm,aaQ,cv hi (by decide)]
   rw[Jb hm ho] at h4
   obtain⟨x,hx⟩:∃ x,o.l.getD i 0=x:=⟨_,rfl⟩
   have mG:x∈o.l:=by rw[←hx];simp[ho]
   rw[hx] at h4 ⊢
   by_cases hb:x<0∨3<x
   ·right
    have ON:CZ o=false:=by
     cases hq:CZ o with
     |false=>rfl
     |true=>have:=zX.1 hq x mG;omega
    refine⟨.inl ([],1),?_,by rw[ON];simp⟩
    rcases hb with hb|hb
    ·simp[hb]
    ·simp[show ¬x<0 by omega,hb]
   ·left
    have b1:¬x<0:=by omega
    have b2:¬3<x:=by omega
    have h5':∀ j,j<i+1→0≤o.l.getD j 0∧o.l.getD j 0≤3:=fun j hj=>by
     by_cases pL:j=i
     ·subst pL;rw[hx];omega
     ·exact h5 j (by omega)
    simp only[b1,b2,abx,abw,abh,aaQ,aco,aaU,abb]
    by_cases sb:x=0
    ·subst sb
     simp only[aa2,acU] at h4
     exact⟨(l,((i+1:Nat):Int)),k-1,by simp,by omega,i+1,rfl,by omega,by show l.length≤i+1;omega,h5',h4⟩
    ·simp only[aa7 sb] at h4
     simp only[sb,abx,abw,abh]
     rw[jT (by omega) (by omega),Bc default (by omega) (by show x-1<((3:Nat):Int);omega),aaQ,tL (by omega) (by omega),aaQ,aaQ]
     exact⟨_,k-1,rfl,by omega,i+1,rfl,by omega,by simp;omega,h5',by rw[←h4];simp⟩) 7 FU ([],0) ⟨0,rfl,rfl,by simp,fun j hj=>by omega,by simp[GU]⟩ (by decide)
 rw[h1,h2]
theorem KM(m:ej)(o:A7):gG FU m o=some (if (FJ m&&CZ o)=true then (GU m o,0) else ([],1)):=by
 have v:=FK m
 unfold gG
 rw[show jX FU (⟨(⟨(⟨m.e0.e0.aS,m.e0.e0.aU⟩:ah),(⟨m.e0.e1.aS,m.e0.e1.aU⟩:ah),(⟨m.e0.e2.aS,m.e0.e2.aU⟩:ah)⟩:A3),(⟨(⟨m.e1.e0.aS,m.e1.e0.aU⟩:ah),(⟨m.e1.e1.aS,m.e1.e1.aU⟩:ah),(⟨m.e1.e2.aS,m.e1.e2.aU⟩:ah)⟩:A3),(⟨(⟨m.e2.e0.aS,m.e2.e0.aU⟩:ah),(⟨m.e2.e1.aS,m.e2.e1.aU⟩:ah),(⟨m.e2.e2.aS,m.e2.e2.aU⟩:ah)⟩:A3),(⟨(⟨m.e3.e0.aS,m.e3.e0.aU⟩:ah),(⟨m.e3.e1.aS,m.e3.e1.aU⟩:ah),(⟨m.e3.e2.aS,m.e3.e2.aU⟩:ah)⟩:A3),(⟨(⟨m.e4.e0.aS,m.e4.e0.aU⟩:ah),(⟨m.e4.e1.aS,m.e4.e1.aU⟩:ah),(⟨m.e4.e2.aS,m.e4.e2.aU⟩:ah)⟩:A3),(⟨(⟨m.e5.e0.aS,m.e5.e0.aU⟩:ah),(⟨m.e5.e1.aS,m.e5.e1.aU⟩:ah),(⟨m.e5.e2.aS,m.e5.e2.aU⟩:ah)⟩:A3),(⟨(⟨m.e6.e0.aS,m.e6.e0.aU⟩:ah),(⟨m.e6.e1.aS,m.e6.e1.aU⟩:ah),(⟨m.e6.e2.aS,m.e6.e2.aU⟩:ah)⟩:A3)⟩:ej)=some (FJ m) from v,FY]
 simp only[aaQ]
 cases FJ m with
 |false=>simp
 |true=>cases CZ o<;>simp
theorem Ef(m:ej)(o:A7):kT FU m o=some (if (FJ m&&CZ o)=true then (wt (GU m o),0) else (0,1)):=by
 unfold kT
 rw[show gG FU (⟨(⟨(⟨m.e0.e0.aS,m.e0.e0.aU⟩:ah),(⟨m.e0.e1.aS,m.e0.e1.aU⟩:ah),(⟨m.e0.e2.aS,m.e0.e2.aU⟩:ah)⟩:A3),(⟨(⟨m.e1.e0.aS,m.e1.e0.aU⟩:ah),(⟨m.e1.e1.aS,m.e1.e1.aU⟩:ah),(⟨m.e1.e2.aS,m.e1.e2.aU⟩:ah)⟩:A3),(⟨(⟨m.e2.e0.aS,m.e2.e0.aU⟩:ah),(⟨m.e2.e1.aS,m.e2.e1.aU⟩:ah),(⟨m.e2.e2.aS,m.e2.e2.aU⟩:ah)⟩:A3),(⟨(⟨m.e3.e0.aS,m.e3.e0.aU⟩:ah),(⟨m.e3.e1.aS,m.e3.e1.aU⟩:ah),(⟨m.e3.e2.aS,m.e3.e2.aU⟩:ah)⟩:A3),(⟨(⟨m.e4.e0.aS,m.e4.e0.aU⟩:ah),(⟨m.e4.e1.aS,m.e4.e1.aU⟩:ah),(⟨m.e4.e2.aS,m.e4.e2.aU⟩:ah)⟩:A3),(⟨(⟨m.e5.e0.aS,m.e5.e0.aU⟩:ah),(⟨m.e5.e1.aS,m.e5.e1.aU⟩:ah),(⟨m.e5.e2.aS,m.e5.e2.aU⟩:ah)⟩:A3),(⟨(⟨m.e6.e0.aS,m.e6.e0.aU⟩:ah),(⟨m.e6.e1.aS,m.e6.e1.aU⟩:ah),(⟨m.e6.e2.aS,m.e6.e2.aU⟩:ah)⟩:A3)⟩:ej) (⟨o.e0,o.e1,o.e2,o.e3,o.e4,o.e5,o.e6⟩:A7)=_ from KM m o,aaQ]
 cases hm:FJ m with
 |false=>simp
 |true=>
  cases ho:CZ o with
  |false=>simp
  |true=>
   have hv:=Jc hm ho
   obtain⟨w,h1,h2⟩:=Ee (n:=FU) hv fu5
   have e:w=wt (GU m o):=MY (acq (zb hv).1) h2 (RI hv).2.1
   simp[h1,e]
end Go.Proofs.YtjdnbobilgamdaaGreatDoor.Ab.um
end
