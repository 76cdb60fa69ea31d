/- From a walk to a row: what comes in reads as data of its type, and a law that returns true leaves what came in as it was. Conditions: none. -/
import Derived.Test.YtjdnbobilgamdaaGreatDoorAb10
import Derived.Carry
import Derived.RowKit
import Derived.ChangeSame
import Derived.ChangeArms
import Derived.JoinedOf
import Derived.Handed
namespace Go.Proofs.YtjdnbobilgamdaaGreatDoor.Ab
open Go Go.RowKit Go.ChangeShapes Go.WideShapes
def cB(P:Program)(t:TypeId):Bool:=match P.underlying t with
 |some (.struct _)|some (.array _ _)=>true
 |_=>false
def partsOf(P:Program)(t:TypeId):List (Nat×TypeId):=match P.underlying t with
 |some (.struct fs)=>fs.toList.map fun f=>(f.offset,f.type)
 |some (.array n e)=>(List.range n).map fun i=>(i*P.cellsOf e,e)
 |_=>[]
def Dz(P:Program):Nat→List (Nat×TypeId)→Nat→Bool
 |off,[],n=>off==n
 |off,f::fs,n=>f.1==off&&Dz P (off+P.cellsOf f.2) fs n
def sf(P:Program):Nat→TypeId→Bool
 |0,_=>false
 |d+1,t=>match P.underlying t with
  |some .bool|some (.int _)|some .string=>true
  |some (.slice e)=>decide (0<P.cellsOf e)&&sf P d e
  |some (.struct _)|some (.array _ _)=>Dz P 0 (partsOf P t) (P.cellsOf t)&&(partsOf P t).all fun f=>sf P d f.2
  |_=>false
def zO(agg:Bool)(c:List D):D:=match agg,c with
 |false,[y]=>y
 |_,c=>.agg c
inductive Ty(P:Program)(N:Nat):TypeId→List D→Prop
 |bool {t:TypeId} (ht:P.underlying t=some .bool) (b:Bool):Ty P N t [.bool b]
 |int {t:TypeId} {k:IntKind} (ht:P.underlying t=some (.int k)) (n:Int) (hn:(Lit.int k n).wf=true):Ty P N t [.int k n]
 |str {t:TypeId} (ht:P.underlying t=some .string) (s:List UInt8) (hs:s.length≤N):Ty P N t [.str s]
 |sl {t e:TypeId} (ht:P.underlying t=some (.slice e)) (l:List (List D)) (hl:l.length≤N) (h:∀ x∈l,Ty P N e x):Ty P N t [.sl (l.map (zO (cB P e)))]
 |row {t:TypeId} (ht:cB P t=true) (ps:List (List D)) (hl:ps.length=(partsOf P t).length) (h:∀ (i:Nat) f x,(partsOf P t)[i]?=some f→ps[i]?=some x→Ty P N f.2 x):Ty P N t ps.flatten
theorem Ty.cells{P:Program}{N:Nat}{t:TypeId}{c:List D}(h:Ty P N t c):(zO (cB P t) c).cells=c:=by
 cases h with
 |bool ht b=>simp[cB,ht,zO,D.cells]
 |int ht n hn=>simp[cB,ht,zO,D.cells]
 |str ht s hs=>simp[cB,ht,zO,D.cells]
 |sl ht l hl h=>simp[cB,ht,zO,D.cells]
 |row ht ps hl h=>rw[ht];rfl
def LL(W:World)(b o:Nat):Prop:=(W.cell? ⟨b,o,none⟩).isSome=true
def G2(W:World)(c:List D)(cs:List Value):Prop:=c.length=cs.length∧∀ (i:Nat) y v,c[i]?=some y→cs[i]?=some v→aV (LL W) W y v
section
variable {H:Type}{enc:TypeId×Value→H}{P:Program}{W:World}
theorem EW{s:Nat}:∀ {L:List (List D)},(∀ c∈L,c.length=s)→L.flatten.length=L.length*s
 |[],_=>by simp
 |c::L,h=>by
  rw[ad',aa9,EW (fun x hx=>h x (aby _ hx)),h c (abr ..),abp,Nat.succ_mul];omega
theorem CA{s:Nat}(qx:0<s):∀ {L:List (List D)},(∀ c∈L,c.length=s)→∀ {k:Nat} {c:List D},L[k/s]?=some c→L.flatten[k]?=c[k%s]?
 |[],_,k,c,hc=>by simp at hc
 |x::L,h,k,c,hc=>by
  have hx:=h x (abr ..)
  rw[ad',ado]
  by_cases hk:k<s
  ·rw[Nat.div_eq_of_lt hk] at hc
   simp at hc;subst hc
   rw[aa2 (by omega),abX hk]
  ·have JZ:s≤k:=by omega
   obtain⟨j,rfl⟩:∃ j,k=j+s:=⟨k-s,by omega⟩
   rw[Nat.add_div_right _ qx] at hc
   rw[aa7 (by omega),hx,Nat.add_sub_cancel,Nat.add_mod_right]
   exact CA qx (fun y hy=>h y (aby _ hy)) (by simpa using hc)
theorem mapM_each{α β:Type}{f:α→Option β}:∀ {l:List α} {r:List β},l.mapM f=some r→∀ {i:α},i∈l→∃ y,f i=some y
 |[],_,_,_,hi=>by simp at hi
 |a::l,r,h,i,hi=>by
  simp only[ac4,Option.bind_eq_bind,abM] at h
  obtain⟨b,hb,bs,hbs,_⟩:=h
  rcases abq.1 hi with rfl|hi
  ·exact⟨b,hb⟩
  ·exact mapM_each hbs hi
theorem mapM_mem{α β:Type}{f:α→Option β}:∀ {l:List α} {r:List β},l.mapM f=some r→∀ {i:α} {y:β},i∈l→f i=some y→y∈r
 |[],r,_,i,_,hi,_=>by cases hi
 |a::l,r,h,i,y,hi,hy=>by
  rw[ac4] at h
  cases Uz:f a with
  |none=>rw[Uz] at h;simp at h
  |some b=>
   cases Aw:l.mapM f with
   |none=>rw[Uz,Aw] at h;simp at h
   |some t=>
    rw[Uz,Aw] at h
    simp at h;subst h
    rcases abq.1 hi with rfl|hi
    ·rw[Uz] at hy;injection hy with hy;subst hy;exact abr ..
    ·exact aby _ (mapM_mem Aw hi hy)
theorem IG:∀ {fs:List (Nat×TypeId)} {off n:Nat},Dz P off fs n=true→off≤n
 |[],off,n,h=>by simp[Dz] at h;omega
 |f::fs,off,n,h=>by
  simp only[Dz,aaT,ad6] at h
  have:=IG h.2
  omega
theorem CB{N:Nat}{cs:List Value}:∀ {fs:List (Nat×TypeId)} {off:Nat},Dz P off fs cs.length=true→
  (∀ f∈fs,∃ c,Ty P N f.2 c∧G2 W c ((cs.drop f.1).take (P.cellsOf f.2)))→
  ∃ ps:List (List D),ps.length=fs.length∧(∀ (i:Nat) f x,fs[i]?=some f→ps[i]?=some x→Ty P N f.2 x)∧G2 W ps.flatten (cs.drop off)
 |[],off,hf,_=>by
  simp only[Dz,ad6] at hf
  exact⟨[],rfl,by simp,by simp[hf],by simp⟩
 |f::fs,off,hf,h=>by
  simp only[Dz,aaT,ad6] at hf
  obtain⟨rfl,hf⟩:=hf
  obtain⟨ps,h1,h2,h3,h4⟩:=CB hf (fun g hg=>h g (aby _ hg))
  obtain⟨c,hc,hl,hr⟩:=h f (abr ..)
  have hle:=IG hf
  have oQ:c.length=P.cellsOf f.2:=by rw[hl,abI,ack];omega
  refine⟨c::ps,by simp[h1],fun i g x hg hx=>?_,?_,fun i y v hy hv=>?_⟩
  ·cases i with
   |zero=>simp at hg hx;subst hg;subst hx;exact hc
   |succ i=>exact h2 i g x (by simpa using hg) (by simpa using hx)
  ·rw[ad',aa9,h3,oQ,ack,ack];omega
  ·rw[ad',ado] at hy
   rw[abn] at hv
   split at hy
   ·rename_i aN
    refine hr i y v hy ?_
    rw[abj,aa2 (by omega),abn];exact hv
   ·rename_i hge
    refine h4 (i-c.length) y v hy ?_
    rw[abn,oQ,show f.1+P.cellsOf f.2+(i-P.cellsOf f.2)=f.1+i by omega];exact hv
theorem CC{R:Nat→List D→Prop}:∀ len,(∀ i,i<len→∃ c,R i c)→∃ L:List (List D),L.length=len∧∀ (i:Nat) c,L[i]?=some c→R i c
 |0,_=>⟨[],rfl,by simp⟩
 |len+1,h=>by
  obtain⟨L,h1,h2⟩:=CC len (fun i hi=>h i (by omega))
  obtain⟨c,hc⟩:=h len (by omega)
  refine⟨L++[c],by simp[h1],fun i c' LM=>?_⟩
  rw[ado] at LM
  split at LM
  ·exact h2 i c' LM
  ·rename_i hge
   have:i=L.length:=by
    have:=(aaS.1 LM).1
    simp at this;omega
   subst this
   simp at LM
   subst LM
   rw[h1];exact hc
theorem DA(a:Addr)(i j:Nat):(a.add i).add j=a.add (i+j):=by
 unfold Addr.add
 by_cases h1:i=0<;>by_cases h2:j=0<;>simp_all [abZ]
theorem vV{y:D}{v:Value}(h:aV (LL W) W y v):G2 W [y] [v]:=by
 refine⟨rfl,fun i a b ha hb=>?_⟩
 cases i with
 |zero=>simp at ha hb;subst ha;subst hb;exact h
 |succ i=>simp at ha
theorem O3:aV (LL W) W (.sl []) (.slice none 0 0):=
 .sl [] none 0 0 (fun _=>undef) (fun _ h=>nomatch h) (aaZ 0) (fun h=>absurd rfl h) (fun k x h=>by simp[D.flat] at h)
structure Sm(N:Nat)(S:DataW H→Prop):Prop where
 str:∀ s:ByteArray,S (.lit (.string s.data.toList))→s.size≤maxLen→s.size≤N
 sl:∀ es sp:List (DataW H),S (.slice es sp)→es.length≤maxLen→es.length≤N∧∀ e∈es,S e
 ag:∀ ps:List (DataW H),S (.agg ps)→∀ p∈ps,S p
theorem DB{N:Nat}{S:DataW H→Prop}(hS:Sm N S):∀ (d:Nat) {t:TypeId} {cs:List Value} {fuel:Nat} {x:DataW H×List MemPlace},sf P d t=true→S x.1→
  DataW.trod enc P W 0 (fun _=>true) true fuel t cs=some x→∃ c,Ty P N t c∧G2 W c cs
 |0,_,_,_,_,hp,_,_=>by simp[sf] at hp
 |d+1,t,cs,0,x,_,_,h=>by simp[DataW.trod] at h
 |d+1,t,cs,fuel+1,x,hp,J0,h=>by
  have k_:cB P t=true→Dz P 0 (partsOf P t) (P.cellsOf t)=true→((partsOf P t).all fun f=>sf P d f.2)=true→cs.length=P.cellsOf t→
    (∀ f∈partsOf P t,∃ x',S x'.1∧DataW.trod enc P W 0 (fun _=>true) true fuel f.2 ((cs.drop f.1).take (P.cellsOf f.2))=some x')→∃ c,Ty P N t c∧G2 W c cs:=by
   intro hr hf ha hl hx
   have:=CB (W:=W) (cs:=cs) (by rw[hl];exact hf) (fun f hf=>by
    obtain⟨x',Xp,kB⟩:=hx f hf
    exact DB hS d (abi.1 ha f hf) Xp kB)
   obtain⟨ps,h1,h2,h3⟩:=this
   exact⟨ps.flatten,.row hr ps h1 h2,by simpa using h3⟩
  unfold sf at hp
  cases hu:P.underlying t with
  |none=>rw[hu] at hp;simp at hp
  |some td=>
   rw[hu] at hp
   unfold DataW.trod at h
   rw[hu] at h
   cases td with
   |bool=>
    split at h<;>simp_all
    exact⟨_,.bool hu _,vV (.bool _)⟩
   |int k=>
    split at h<;>simp_all
    obtain⟨⟨rfl,hw⟩,_⟩:=h
    exact⟨_,.int hu _ hw,vV (.int _ _)⟩
   |string=>
    split at h<;>simp_all
    rename_i s
    have Xp:x.1=.lit (.string s.data.toList):=by obtain⟨_,h2⟩:=h;simp[←h2]
    refine⟨_,.str hu s.data.toList (by rw[abL];exact hS.str s (Xp▸J0) h.1),vV ?_⟩
    have:aV (LL W) W (.str s.data.toList) (.string ⟨s.data.toList.toArray⟩):=.str _
    simpa using this
   |slice e=>
    simp only[aaT,abe] at hp
    obtain⟨qx,hpe⟩:=hp
    have hd:DataW.trod enc P W 0 (fun _=>true) true (fuel+1) t cs=some x:=by unfold DataW.trod;rw[hu];exact h
    rcases DataW.trod_slice hu hd with ⟨rfl,_⟩|⟨a,len,cap,elems,rest,n,hn,rfl,UW,_,hlc,hcm,hel,UX,_⟩
    ·exact⟨_,.sl hu [] (acp _) (fun _ h=>nomatch h),vV O3⟩
    ·obtain rfl:fuel=n:=by omega
     obtain⟨hlN,J1⟩:=hS.sl (elems.map (·.1)) (rest.map (·.1)) (by rw[UW] at J0;exact J0) (by simp;omega)
     simp only[aa4] at hlN
     have UY:=CC (R:=fun i c=>∃ vs,Ty P N e c∧W.cells? 0 (a.add (i*P.cellsOf e)) (P.cellsOf e)=some vs∧G2 W c vs) len (fun i hi=>by
      have:=UX i hi
      have he:∃ y,elems[i]?=some y:=⟨elems[i]'(by omega),by simp[hel,hi]⟩
      obtain⟨y,hy⟩:=he
      rw[hy,abM] at this
      obtain⟨vs,h1,h2⟩:=this
      obtain⟨c,h3,h4⟩:=DB hS d hpe (J1 _ (abS.2 ⟨y,abc hy,rfl⟩)) h2
      exact⟨c,vs,h3,h1,h4⟩)
     obtain⟨L,hL,X1⟩:=UY
     have X2:∀ c∈L,Ty P N e c:=by
      intro c hc
      obtain⟨i,hi,rfl⟩:=adO.1 hc
      obtain⟨_,h1,_⟩:=X1 i _ (aaV hi)
      exact h1
     have dE:∀ (i:Nat) c,L[i]?=some c→c.length=P.cellsOf e:=by
      intro i c hc
      obtain⟨vs,_,h2,h3,_⟩:=X1 i c hc
      rw[h3];exact(World.cells?_some h2).2.1
     have O4:∀ c∈L,c.length=P.cellsOf e:=by
      intro c hc
      obtain⟨i,hi,rfl⟩:=adO.1 hc
      exact dE i _ (aaV hi)
     have LN:D.flat (L.map (zO (cB P e)))=L.flatten:=by
      unfold D.flat
      rw[List.flatMap_def,acB]
      have e:L.map (D.cells∘zO (cB P e))=L.map id:=acX (fun c hc=>(X2 c hc).cells)
      rw[e,List.map_id]
     have X3:∀ (k:Nat),k<len*P.cellsOf e→∃ y v,L.flatten[k]?=some y∧W.cell? (a.add k)=some v∧aV (LL W) W y v:=by
      intro k hk
      have hq:k/P.cellsOf e<len:=by rw[Nat.div_lt_iff_lt_mul qx];exact hk
      have hLq:L[k/P.cellsOf e]?=some (L[k/P.cellsOf e]'(by omega)):=aaV (by omega)
      obtain⟨vs,_,h2,h3,h4⟩:=X1 _ _ hLq
      have hm:k%P.cellsOf e<P.cellsOf e:=adx _ qx
      have hc:=(World.cells?_some h2).2.2 (k%P.cellsOf e) hm
      have hvl:=(World.cells?_some h2).2.1
      have O5:vs[k%P.cellsOf e]?=some (vs[k%P.cellsOf e]'(by omega)):=aaV (by omega)
      have Xq:(L[k/P.cellsOf e]'(by omega))[k%P.cellsOf e]?=some ((L[k/P.cellsOf e]'(by omega))[k%P.cellsOf e]'(by omega)):=aaV (by omega)
      refine⟨_,_,?_,?_,h4 _ _ _ Xq O5⟩
      ·rw[←Xq]
       exact CA qx O4 hLq
      ·rw[O5] at hc
       have ea:(a.add (k/P.cellsOf e*P.cellsOf e)).add (k%P.cellsOf e)=a.add k:=by
        rw[DA,Nat.div_add_mod']
       rw[←ea];exact hc
     have O6:len≠0→a.spot=none:=by
      intro h0
      obtain⟨_,_,_,hc,_⟩:=X3 0 (adP (by omega) qx)
      have:=World.cell?_spot hc
      simpa[Addr.add] using this
     have gM:aV (LL W) W (.sl (L.map (zO (cB P e)))) (.slice (some a) len cap):=by
      have key:=aV.sl (Pr:=LL W) (w:=W) (L.map (zO (cB P e))) (some a) cap (P.cellsOf e) (fun k=>(W.cell? (a.add k)).getD undef)
       (by
        intro y hy
        obtain⟨c,hc,rfl⟩:=abS.1 hy
        rw[(X2 c hc).cells];exact O4 c hc)
       (by simp[hL];exact hlc)
       (fun aR=>by
        have h0:len≠0:=by
         intro h0
         rw[h0] at hL
         exact aR (by simp[acm hL])
        have hs:=O6 h0
        obtain⟨ab,ao,as⟩:=a
        simp at hs;subst hs
        refine⟨ab,ao,rfl,fun k hk=>?_⟩
        obtain⟨_,v,_,hc,_⟩:=X3 k (by simpa[hL] using hk)
        rw[add_plain] at hc ⊢
        have LM:W.cell? ⟨ab,ao+k,none⟩=some v:=hc
        refine⟨by rw[LL,LM];rfl,?_⟩
        show W.cell? ⟨ab,ao+k,none⟩=some ((W.cell? ⟨ab,ao+k,none⟩).getD undef)
        rw[LM];rfl)
       (fun k y hy=>by
        rw[LN] at hy
        have hk:k<len*P.cellsOf e:=by
         have:=(aaS.1 hy).1
         rw[EW O4,hL] at this
         exact this
        obtain⟨y',v,h1,h2,h3⟩:=X3 k hk
        rw[hy] at h1
        obtain rfl:=aa5 h1
        simp[h2];exact h3)
      simpa[hL] using key
     exact⟨_,.sl hu L (by omega) X2,vV gM⟩
   |struct fs=>
    have hd:DataW.trod enc P W 0 (fun _=>true) true (fuel+1) t cs=some x:=by unfold DataW.trod;rw[hu];exact h
    simp only[aaT] at hp
    obtain⟨xs,n,hn,UW,hl,hlen,hf⟩:=DataW.trod_struct hu hd
    obtain rfl:fuel=n:=by omega
    refine k_ (by simp[cB,hu]) hp.1 hp.2 hl fun f UZ=>?_
    simp only[partsOf,hu,abS] at UZ
    obtain⟨g,hg,rfl⟩:=UZ
    obtain⟨i,hi,rfl⟩:=adO.1 hg
    have uC:i<fs.size:=by simpa using hi
    have:=hf i _ (acx uC)
    exact⟨xs[i]'(by omega),hS.ag (xs.map (·.1)) (by rw[UW] at J0;exact J0) _ (abS.2 ⟨_,acb _,rfl⟩),by rw[show fs.toList[i]=fs[i] by simp,this];exact aaV (by omega)⟩
   |array n e=>
    simp only[aaT] at hp
    simp only at h
    split at h
    ·rename_i hl
     simp only[aa6] at h
     obtain⟨xs,hx,UW⟩:=h
     refine k_ (by simp[cB,hu]) hp.1 hp.2 hl fun f UZ=>?_
     simp only[partsOf,hu,abS,ach] at UZ
     obtain⟨i,hi,rfl⟩:=UZ
     obtain⟨y,hy⟩:=mapM_each hx (by simpa using hi)
     refine⟨y,hS.ag (xs.map (·.1)) (by rw[←UW] at J0;exact J0) _ (abS.2 ⟨y,?_,rfl⟩),hy⟩
     exact mapM_mem hx (by simpa using hi) hy
    ·cases h
   |_=>simp at hp
def IH(P:Program)(N:Nat):List TypeId→List D→Prop
 |[],[]=>True
 |t::ts,x::xs=>(∃ c,Ty P N t c∧x=zO (cB P t) c)∧IH P N ts xs
 |_,_=>False
theorem O7{N:Nat}{t:TypeId}{c:List D}{v:Value}{r:Reach}{base:Nat}(h:Ty P N t c)(hr:G2 W c v.cells.toList)(hv:Value.okWide P W r base t v):aV (LL W) W (zO (cB P t) c) v:=by
 cases h with
 |bool ht b=>
  simp only[Value.okWide,ht,Cell.okWide] at hv
  have:zO (cB P t) [D.bool b]=D.bool b:=by simp[cB,ht,zO]
  rw[this]
  cases v<;>simp_all [Cell.ok]
  exact hr.2 0 _ _ rfl (by simp[Value.cells])
 |int ht n hn=>
  simp only[Value.okWide,ht,Cell.okWide] at hv
  rename_i k
  have:zO (cB P t) [D.int k n]=D.int k n:=by simp[cB,ht,zO]
  rw[this]
  cases v<;>simp_all [Cell.ok]
  exact hr.2 0 _ _ rfl (by simp[Value.cells])
 |str ht s hs=>
  simp only[Value.okWide,ht,Cell.okWide] at hv
  have:zO (cB P t) [D.str s]=D.str s:=by simp[cB,ht,zO]
  rw[this]
  cases v<;>simp_all [Cell.ok]
  exact hr.2 0 _ _ rfl (by simp[Value.cells])
 |sl ht l hl h=>
  rename_i e
  have:zO (cB P t) [D.sl (l.map (zO (cB P e)))]=D.sl (l.map (zO (cB P e))):=by simp[cB,ht,zO]
  rw[this]
  obtain⟨a,len,cap,rfl⟩:=okWide_slice ht hv
  exact hr.2 0 _ _ rfl (by simp[Value.cells])
 |row ht ps hl h=>
  rw[ht]
  have:∃ cs,v=.agg cs:=by
   unfold cB at ht
   unfold Value.okWide at hv
   split at hv
   ·exact⟨_,hv.choose_spec.1⟩
   ·exact⟨_,hv.choose_spec.1⟩
   ·split at ht<;>simp_all
  obtain⟨cs,rfl⟩:=this
  exact .agg _ cs (by have:=hr.1;simp[Value.cells] at this ⊢;omega) (fun i x v hx hv=>hr.2 i x v hx (by simpa[Value.cells] using hv))
theorem II{N:Nat}{S:DataW H→Prop}(hS:Sm N S){r:Reach}{base:Nat}:∀ {ts:List TypeId} {vs:List Value} {ds:List (DataW H)} {ps:List MemPlace},DataW.TrodAll enc P W 0 (fun _=>true) true ts vs ds ps→(∀ d∈ds,S d)→ts.all (sf P 30)=true→
  (∀ (j:Nat) t v,ts[j]?=some t→vs[j]?=some v→Value.okWide P W r base t v)→
  ∃ xs,IH P N ts xs∧xs.length=vs.length∧ds.length=ts.length∧∀ (i:Nat) x v,xs[i]?=some x→vs[i]?=some v→aV (LL W) W x v
 |[],[],[],_,_,_,_,_=>⟨[],trivial,rfl,rfl,by simp⟩
 |t::ts,v::vs,d::ds,_,h,Xr,hp,hv=>by
  obtain⟨p,q,⟨fuel,h1⟩,h2,_⟩:=h
  simp only[aed,aaT] at hp
  obtain⟨c,hc,hr⟩:=DB hS 30 hp.1 (Xr d (abr ..)) h1
  obtain⟨xs,k1,k2,k3,k4⟩:=II hS h2 (fun d' hd'=>Xr d' (aby _ hd')) hp.2 (fun j t v ht rf=>hv (j+1) t v (by simpa using ht) (by simpa using rf))
  refine⟨zO (cB P t) c::xs,⟨⟨c,hc,rfl⟩,k1⟩,by simp[k2],by simp[k3],fun i x u hx hu=>?_⟩
  cases i with
  |zero=>simp at hx hu;subst hx;subst hu;exact O7 hc hr (hv 0 t v rfl rfl)
  |succ i=>exact k4 i x u (by simpa using hx) (by simpa using hu)
 |[],[],_::_,_,h,_,_,_=>h.elim
 |[],_::_,_,_,h,_,_,_=>h.elim
 |_::_,[],_,_,h,_,_,_=>h.elim
 |_::_,_::_,[],_,h,_,_,_=>h.elim
theorem uD{W':World}(hl:laidOutB P=true)(hb:Below W.heap.size W W'){sp:Nat→Bool}:∀ {ts:List TypeId} {vs:List Value} {ds:List (DataW H)} {ps:List MemPlace},
  ts.all (fun t=>P.readableRec t&&decide (t<P.types.size))=true→DataW.TrodAll enc P W 0 (fun _=>true) true ts vs ds ps→(∀ x∈ps,x.block<W.heap.size)→(∀ x∈ps,sp x.block=true)→DataW.TrodAll enc P W' 0 sp true ts vs ds ps
 |[],[],[],_,_,h,_,_=>h
 |t::ts,v::vs,d::ds,_,hr,h,aN,hs=>by
  obtain⟨p,q,h1,h2,rfl⟩:=h
  simp only[aed,aaT,abe] at hr
  exact⟨p,q,WideElems.Trod_stays hl hr.1.1 hr.1.2 h1 (fun x hx=>hb.same (aN x (acS _ hx))) (fun x hx=>hs x (acS _ hx)),
   uD hl hb hr.2 h2 (fun x hx=>aN x (ael _ hx)) (fun x hx=>hs x (ael _ hx)),rfl⟩
 |[],[],_::_,_,_,h,_,_=>h.elim
 |[],_::_,_,_,_,h,_,_=>h.elim
 |_::_,[],_,_,_,h,_,_=>h.elim
 |_::_,_::_,[],_,_,h,_,_=>h.elim
theorem G3{N:Nat}{S:DataW H→Prop}(hS:Sm N S){f:FuncId}{fn:Func}{s:ChangeSpec}{ts:List TypeId}{tb:TypeId}{fresh handsOn again:Bool}(Cd:fn.params.toList=ts)(hrt:fn.resultTypes=#[tb])(hb:P.underlying tb=some .bool)(Ri:s.vars=[])
  (Si:ts.all (sf P 30)=true)(U0:laidOutB P=true)(U1:ts.all (fun t=>P.readableRec t&&decide (t<P.types.size))=true)
  (U2:∀ ds:List (DataW H),ds.length=ts.length→(s.fn H ds).results=[.lit (.bool true)]∧(s.fn H ds).args=ds∧(s.fn H ds).vars=[])
  {base:Nat}{args:Array Value}{ds gs:List (DataW H)}{before:List MemPlace}
  (U3:∀ x∈KC,∃ et fr,W.heap[x.1]?=some (.cells x.2 et fr))
  (X4:∀ xs,IH P N ts xs→Fn P f xs (.bool true))
  (EX:∀ (j:Nat) t v,fn.params[j]?=some t→args[j]?=some v→Value.okWide P W .any base t v)
  (hW:DataW.Whole enc P fn.params.toList s.vars false W args.toList ds gs before)(Xr:∀ d∈ds,S d):
  Calls P f args W fun e W'=>∃ v,e=.returned v∧s.post enc P fn false fresh handsOn again W args v W':=by
 have aN:=hW.lt
 have hW':=hW
 rw[Cd,Ri] at hW
 obtain⟨p,q,hA,hV,rfl,Sj,_⟩:=hW
 obtain⟨rfl,rfl⟩:gs=[]∧q=[]:=by
  cases gs with
  |nil=>exact⟨rfl,hV⟩
  |cons g gs=>exact hV.elim
 rw[acz] at aN Sj
 obtain⟨xs,hx,hlen,hdl,gM⟩:=II hS (r:=.any) (base:=base) hA Xr Si (fun j t v ht hv=>EX j t v (by rw[←Cd] at ht;simpa using ht) (by simpa using hv))
 obtain⟨e1,e2,e3⟩:=U2 (ds++[]) (by simpa using hdl)
 rw[acz] at e2
 let g:G:={σ:=fun _=>none,τ:=fun _=>none,υ:=fun _ _=>False,X:=fun _=>False,Pr:=LL W }
 have hw:aQ g W []:=by
  refine⟨fun b o h=>?_,fun b hb=>hb.elim,?_,?_,?_,?_,?_,?_,fun _ _=>⟨rfl,rfl,fun _ h=>h⟩,fun x hx=>⟨fun h=>h,fun o ho=>?_,U3 x hx⟩⟩
  ·obtain⟨v,hv⟩:=acT.1 h
   exact World.block_lt_of_cell? W ⟨b,o,none⟩ hv
  rotate_left 6
  ·obtain⟨et,fr,h1⟩:=U3 x hx
   show(W.cell? ⟨x.1,o,none⟩).isSome=true
   simp[World.cell?,h1,ho]
  all_goals intros;simp_all
 refine(X4 xs hx g W args hw (by simpa using hlen.symm) (fun i x v hx hv=>?_)).mono ?_
 ·simp only[aba,aa6] at hx
  obtain⟨y,hy,rfl⟩:=hx
  exact .d (gM i y v hy (by simpa using hv))
 rintro e W' ⟨rv,res,g',H',rfl,lN,bK,hr,rfl⟩
 obtain rfl:rv=.bool true:=by
  cases hr with
  |d hd=>cases hd;rfl
 have G4:Below W.heap.size W W':=⟨bK.same.1,bK.same.2.1,bK.same.2.2,bK.size,fun k hk=>bK.aY k hk (fun h=>h)⟩
 have yL:∀ sp:Nat→Bool,(∀ x∈p,sp x.block=true)→DataW.TrodAll enc P W' 0 sp true fn.params.toList args.toList (s.fn H (ds++[])).args p:=fun sp hs=>by
  rw[acz,e2,Cd];exact uD U0 G4 U1 hA aN hs
 have zn:∀ (b:Nat) (sp:Nat→Bool) (hd:Bool),DataW.TrodAll enc P W' b sp hd fn.resultTypes.toList ((Value.bool true).resultList fn.resultTypes.size) (s.fn H (ds++[])).results []:=fun b sp hd=>by
  rw[e1,hrt];exact trodAll_mk1 (shut_bool hb true)
 have O5:∀ sp:Nat→Bool,DataW.TrodVars enc P W' sp s.vars (s.fn H (ds++[])).vars []:=fun sp=>by rw[Ri,e3];rfl
 refine⟨_,rfl,ds,[],p++[],[],p,[],hW',zn _ _ _,yL _ (fun x hx=>by simpa using aN x hx),O5 _,World.keptBut_mono (fun x hx=>?_) (G4.frame (fun _=>False)),fun _=>?_⟩
 ·exact hx.elim
 ·refine⟨ok_one hrt rfl (okWide_bool_mk hb true),_,_,([]++p)++[],⟨[]++p,[],trodAll_append (yL _ (fun _ _=>rfl)) (zn _ _ _),O5 _,rfl,?_,fun h=>by cases h⟩,fun x hx _=>by simpa using hx⟩
  intro b off hp
  have U4:MemPlace.cell b off∈p:=by simpa using hp
  rw[G4.frozen (p:=⟨b,off,none⟩) (aN _ U4)]
  exact Sj b off U4
theorem Ty.LO{N:Nat}{t:TypeId}{c:List D}(h:Ty P N t c)(ht:P.underlying t=some .bool):∃ b,c=[.bool b]:=by
 cases h<;>simp_all [cB]
theorem Ty.O8{N:Nat}{t:TypeId}{k:IntKind}{c:List D}(h:Ty P N t c)(ht:P.underlying t=some (.int k)):∃ n,c=[.int k n]∧(Lit.int k n).wf=true:=by
 cases h with
 |int UA n hn=>rw[ht] at UA;cases UA;exact⟨n,rfl,hn⟩
 |row hr=>simp[cB,ht] at hr
 |_=>simp_all
theorem Ty.O9{N:Nat}{t:TypeId}{c:List D}(h:Ty P N t c)(ht:P.underlying t=some .string):∃ s,c=[.str s]∧s.length≤N:=by
 cases h with
 |str UA s hs=>exact⟨s,rfl,hs⟩
 |row hr=>simp[cB,ht] at hr
 |_=>simp_all
theorem Ty.Ax{N:Nat}{t e:TypeId}{c:List D}(h:Ty P N t c)(ht:P.underlying t=some (.slice e)):∃ l:List (List D),c=[.sl (l.map (zO (cB P e)))]∧l.length≤N∧∀ x∈l,Ty P N e x:=by
 cases h with
 |sl UA l hl hx=>rw[ht] at UA;cases UA;exact⟨l,rfl,hl,hx⟩
 |row hr=>simp[cB,ht] at hr
 |_=>simp_all
def DC(P:Program)(N:Nat):List (Nat×TypeId)→List D→Prop
 |[],c=>c=[]
 |f::fs,c=>∃ a b,Ty P N f.2 a∧DC P N fs b∧c=a++b
theorem Ay{N:Nat}:∀ {fs:List (Nat×TypeId)} {ps:List (List D)},ps.length=fs.length→(∀ (i:Nat) f x,fs[i]?=some f→ps[i]?=some x→Ty P N f.2 x)→DC P N fs ps.flatten
 |[],[],_,_=>rfl
 |f::fs,x::ps,h,hx=>⟨x,ps.flatten,hx 0 f x rfl rfl,Ay (by simpa using h) (fun i g y hg hy=>hx (i+1) g y (by simpa using hg) (by simpa using hy)),by simp⟩
theorem Ty.vW{N:Nat}{t:TypeId}{c:List D}{fs:List (Nat×TypeId)}(h:Ty P N t c)(ht:cB P t=true)(hf:partsOf P t=fs):DC P N fs c:=by
 subst hf
 cases h with
 |row _ ps hl hx=>exact Ay hl hx
 |bool h|int h|str h|sl h=>simp[cB,h] at ht
theorem O_{α:Type}{f:α→List D}{R:List D→Prop}(h:∀ x,R x→∃ a,x=f a):∀ {l:List (List D)},(∀ x∈l,R x)→∃ as:List α,l=as.map f
 |[],_=>⟨[],rfl⟩
 |x::l,hl=>by
  obtain⟨a,rfl⟩:=h x (hl x (abr ..))
  obtain⟨as,rfl⟩:=O_ h (fun y hy=>hl y (aby _ hy))
  exact⟨a::as,rfl⟩
theorem qy{α:Type}{f:α→List D}{R:List D→Prop}{S:α→Prop}(h:∀ x,R x→∃ a,x=f a∧S a):∀ {l:List (List D)},(∀ x∈l,R x)→∃ as:List α,l=as.map f∧∀ a∈as,S a
 |[],_=>⟨[],rfl,by simp⟩
 |x::l,hl=>by
  obtain⟨a,rfl,ha⟩:=h x (hl x (abr ..))
  obtain⟨as,rfl,has⟩:=qy h (fun y hy=>hl y (aby _ hy))
  exact⟨a::as,rfl,by simpa using ⟨ha,has⟩⟩
end
end Go.Proofs.YtjdnbobilgamdaaGreatDoor.Ab
