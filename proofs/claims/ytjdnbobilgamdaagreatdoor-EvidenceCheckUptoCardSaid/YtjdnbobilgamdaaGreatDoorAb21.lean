/- Lists that are given up to be data, and lists that are lent to a call. Texts: pieces of them, bytes as a text, their order. Lists that are written in place and grow as well. What a function comes to over a small heap, it comes to over any heap that has these entries; and functions whose results lie in the heap. Calls over a heap, and lists whose first element comes by 'append'. Lists in the cells of rows: they begin empty, to be written in place; they are given up to be data. Conditions: none. -/
import Derived.Test.YtjdnbobilgamdaaGreatDoorAb15
import Derived.Laws.BytesArg
section
namespace Go.Proofs.YtjdnbobilgamdaaGreatDoor.Ab
open Go
theorem aQ.freeze{g:G}{w:World}{H:List HE}{id s:Nat}{l:List D}{e:TypeId}(hw:aQ g w H)(hH:H[id]?=some (.bn l e s))(hs:∀ x∈l,x.cells.length=s):
  ∃ g',aQ g' w (H.set id .dead)∧cG g w g' w∧(∀ i,g'.τ i=g.τ i)∧(∀ a cap,g.τ id=some (0,a,cap)→aV g'.Pr w (.sl l) (.slice a l.length cap)):=by
 have eC:id<H.length:=(aaS.1 hH).1
 obtain⟨a0,sk,f1,f2,f3,f4⟩:=hw.bn id l e s hH
 let g':G:={σ:=g.σ,τ:=g.τ,υ:=g.υ,X:=g.X,Pr:=fun b o=>g.Pr b o∨(0<sk∧g.aD id (.bn l e s) b∧o<l.length*s)}
 have Ss:∀ b,g.aD id (.bn l e s) b→g.X b:=fun b hb=>hw.aD id _ b hH hb
 have bK:cG g w g' w:={
  same:=⟨rfl,rfl,rfl⟩
  size:=aaZ _
  pr:=fun b o hp=>⟨.inl hp,rfl⟩
  pK:=fun b o h=>by
   exact au
  x:=fun b h=>.inl h
  aY:=fun b _ _=>rfl
  σ:=fun _ _ h=>h
  τ:=fun _ m a cap h=>⟨m,a,cap,h,.inr ⟨rfl,rfl,rfl⟩⟩}
 have ax:∀ (i:Nat) e,(H.set id .dead)[i]?=some e→(i=id∧e=.dead)∨(i≠id∧H[i]?=some e):=au
 have aR:∀ (i:Nat) x b,i≠id→H[i]?=some x→g.aD i x b→¬g.aD id (.bn l e s) b:=fun i x b hi hx hb hc=>hi (hw.sep i id _ _ b hx hH hb hc)
 refine⟨g',⟨?_,hw.xs,?_,?_,?_,?_,?_,?_,?_,hw.Ca bK⟩,bK,fun _=>rfl,?_⟩
 ·intro b o h
  rcases h with h|⟨_,h,_⟩
  ·exact hw.pr b o h
  ·exact hw.xs b (Ss b h)
 ·intro i x b he hb
  rcases ax i x he with ⟨rfl,rfl⟩|⟨hi,h⟩
  ·simp[G.aD] at hb
  ·exact hw.aD i x b h (by cases x<;>exact hb)
 ·intro i i' x x' b he qj hb dD
  rcases ax i x he with ⟨rfl,rfl⟩|⟨hi,h⟩
  ·simp[G.aD] at hb
  ·rcases ax i' x' qj with ⟨rfl,rfl⟩|⟨uC,h'⟩
   ·simp[G.aD] at dD
   ·exact hw.sep i i' x x' b h h' (by cases x<;>exact hb) (by cases x'<;>exact dD)
 ·intro i c he
  rcases ax i _ he with ⟨_,h⟩|⟨hi,h⟩
  ·cases h
  ·obtain⟨b1,dx,sj,g1,g2,g3,g4,g5⟩:=hw.row i c h
   refine⟨b1,dx,sj,g1,g2,g3,fun k x v hx hv=>(g4 k x v hx hv).mono bK,fun o hp=>?_⟩
   rcases hp with hp|⟨_,hp,_⟩
   ·exact g5 o hp
   ·exact aR i _ b1 hi h g1 hp
 ·intro i n e1 s1 he
  rcases ax i _ he with ⟨_,h⟩|⟨hi,h⟩
  ·cases h
  ·obtain⟨a,cap,g1,g2,g3,g4⟩:=hw.tok i n e1 s1 h
   refine⟨a,cap,g1,g2,g3,fun aN=>?_⟩
   obtain⟨b1,dx,k1,k2,k3,k4⟩:=g4 aN
   refine⟨b1,dx,k1,k2,k3,fun o hp=>?_⟩
   rcases hp with hp|⟨_,hp,_⟩
   ·exact k4 o hp
   ·exact absurd hp (aR i _ b1 hi h (by simp[G.aD,g1,aN,k1]))
 ·intro i l1 e1 s1 he
  rcases ax i _ he with ⟨_,h⟩|⟨hi,h⟩
  ·cases h
  ·obtain⟨a,cap,g1,g2,g3,g4⟩:=hw.bn i l1 e1 s1 h
   refine⟨a,cap,g1,g2,g3,fun aN=>?_⟩
   obtain⟨b1,dx,k1,k0,k2,k3,k4,k5⟩:=g4 aN
   refine⟨b1,dx,k1,k0,k2,k3,fun o hp=>?_,fun k x v hx hv=>(k5 k x v hx hv).mono bK.pr⟩
   rcases hp with hp|⟨_,hp,_⟩
   ·exact k4 o hp
   ·exact absurd hp (aR i _ b1 hi h (by simp[G.aD,g1,aN,k1]))
 ·intro i x he
  rcases ax i _ he with ⟨_,h⟩|⟨hi,h⟩
  ·cases h
  ·obtain⟨b1,q1,q2,q3,q4⟩:=hw.ob i x h
   refine⟨b1,q1,x.st bK.w rfl rfl rfl (fun _ _=>rfl) q2,fun o hp=>?_,fun b' o hu hp=>?_⟩
   ·rcases hp with hp|⟨_,hp,_⟩
    ·exact q3 o hp
    ·exact aR i _ b1 hi h (.inl q1) hp
   ·rcases hp with hp|⟨_,hp,_⟩
    ·exact q4 b' o hu hp
    ·exact aR i _ b' hi h (.inr hu) hp
 ·intro i hi
  have aR:i≠id:=au
  refine hw.free i ?_
  exact au
 ·intro a cap ht
  rw[f1] at ht;injection ht with ht;injection ht with _ ht;injection ht with h1 h2
  subst h1;subst h2
  refine .sl l a0 sk s (fun k=>match a0 with|some ad=>(w.cell? ⟨ad.block,k,none⟩).getD undef|none=>undef) hs f2 (fun DH=>?_) (fun k x hx=>?_)
  ·have rR:0<l.length:=abA.2 DH
   have hc:0<sk:=by omega
   obtain⟨b,arr,rfl,q0,q2,q3,q4,q5⟩:=f4 hc
   refine⟨b,0,rfl,fun k hk=>⟨.inr ⟨hc,by simp[G.aD,f1,hc],by omega⟩,?_⟩⟩
   have zo:k<arr.size:=by
    rw[q3];exact aa_ hk (abg _ f2)
   simp only[abY,aL q2]
   simp[zo]
  ·have Aw:=dG hs
   have xA:k<l.length*s:=au
   have hc:0<sk:=au
   obtain⟨b,arr,rfl,q0,q2,q3,q4,q5⟩:=f4 hc
   have zo:k<arr.size:=by
    rw[q3];exact aa_ xA (abg _ f2)
   simp only[aL q2]
   have:arr[k]?=some arr[k]:=by simp[zo]
   rw[this]
   exact(q5 k x _ hx this).mono bK.pr
def DI(E:Nat→V):List Nat→V→Nat→V
 |[],_=>E
 |t::ts,v=>Hc (DI E ts v) t v
def AF(E:Nat→V)(v:V):List Nat→Prop
 |[]=>True
 |t::ts=>E t=v∧AF E v ts
theorem wg{g:G}{w:World}{E:Nat→V}{v u:V}{i:Nat}{r:Value}(hr:cu g w (E i) r)(Va:cu g w u r→cu g w v r):∀ {ts:List Nat},AF E u ts→cu g w (DI E ts v i) r
 |[],_=>hr
 |t::ts,h=>by
  simp only[DI]
  by_cases hi:i=t
  ·subst hi
   rw[mP]
   rw[h.1] at hr
   exact Va hr
  ·rw[AG _ _ hi];exact wg hr Va h.2
theorem AW.freeze{F:FC}{Q:Exit→St→Prop}{c:Code}{E:Nat→V}{H:List HE}{α:Type}{f:α→D}{l:List α}{e:TypeId}{s len:Nat}(id:Nat)(ts:List Nat)(hH:H[id]?=some (.bn (l.map f) e s))(hl:l.length=len)(hf:En f s)
  (hE:AF E (.hs id 0 len s) ts)(h:AW F c Q ⟨DI E ts (.d (.sl (l.map f))),H.set id .dead⟩):AW F c Q ⟨E,H⟩:=by
 rintro a w ⟨h1,h2,g,h3,h4,h5⟩
 obtain⟨a0,sk,k1,k2,_⟩:=h3.bn id _ _ _ hH
 obtain⟨g',w1,w2,w3,w4⟩:=h3.freeze hH (hf.Ls l)
 refine h a w ⟨h1,h2,g',w1,h4.trans w2,fun i=>wg ((h5 i).mono w2) (fun hr=>?_) hE⟩
 generalize a.tmps.getD i undef=r at hr
 cases hr with
 |@hs _ _ _ _ m eZ n0 c0 a' Yb p1 p2=>
  rw[w3,k1] at p1;injection p1 with p1;injection p1 with p1 p3;injection p3 with p3 p4
  obtain⟨r1,r2,r3,_⟩:=pV (p2 p1.symm)
  have:=w4 a0 sk k1
  subst r1;subst r3;subst p3;subst p4
  rw[r2,←hl]
  simp only[aa4] at this
  exact .d this
def D.DJ:D→Bool
 |.int _ _|.bool _|.str _=>true
 |.gd l=>l.all fun x=>match x with|.int _ _|.bool _|.str _=>true|_=>false
 |_=>false
theorem aV.plain{Pr Pr':Nat→Nat→Prop}{w w':World}{x:D}{r:Value}(hx:x.DJ=true)(h:aV Pr w x r):aV Pr' w' x r:=by
 cases h with
 |bool b=>exact .bool b
 |int k n=>exact .int k n
 |str s=>exact .str s
 |raw=>exact .raw _
 |agg l arr hs hr=>simp[D.DJ] at hx
 |sl=>simp[D.DJ] at hx
 |gd l arr hs hr=>
  refine .gd l arr hs (fun i y v hy hv=>?_)
  have:=abi.1 hx y (abc hy)
  have h2:=hr i y v hy hv
  cases h2<;>simp at this
  ·exact .bool _
  ·exact .int _ _
  ·exact .str _
def J9(g:G)(H:List HE)(ids:List Nat)(b o:Nat):Prop:=∃ id l e s,id∈ids∧H[id]?=some (.bn l e s)∧g.aD id (.bn l e s) b∧o<l.length*s
inductive yQ(ρ:Operand→V)(H:List HE)(ids:List Nat):List Operand→List D→Prop
 |nil:yQ ρ H ids [] []
 |d {x:Operand} {d:D} {xs:List Operand} {ds:List D}:As (ρ x) d→yQ ρ H ids xs ds→yQ ρ H ids (x::xs) (d::ds)
 |l {x:Operand} {α:Type} {f:α→D} {l:List α} {id len s:Nat} {e:TypeId} {xs:List Operand} {ds:List D}:Is (ρ x) (.hs id 0 len s)→H[id]?=some (.bn (l.map f) e s)→l.length=len→En f s→EZ ids id=true→
   yQ ρ H ids xs ds→yQ ρ H ids (x::xs) (.sl (l.map f)::ds)
theorem yQ.get{ρ:Operand→V}{H:List HE}{ids:List Nat}{xs:List Operand}{ds:List D}(h:yQ ρ H ids xs ds):xs.length=ds.length∧∀ (i:Nat) d,ds[i]?=some d→∃ x,xs[i]?=some x∧
  (As (ρ x) d∨∃ (l:List D) (id len s:Nat) (e:TypeId),Is (ρ x) (.hs id 0 len s)∧H[id]?=some (.bn l e s)∧l.length=len∧(∀ x∈l,x.cells.length=s)∧id∈ids∧d=.sl l):=by
 induction h with
 |nil=>simp
 |d ha _ ih=>
  refine⟨by simp[ih.1],fun i d hd=>?_⟩
  cases i with
  |zero=>simp only[aa',aaW] at hd;subst hd;exact⟨_,rfl,.inl ha⟩
  |succ i=>exact ih.2 i d (by simpa using hd)
 |l h1 h2 h3 h4 h5 _ ih=>
  refine⟨by simp[ih.1],fun i d hd=>?_⟩
  cases i with
  |zero=>simp only[aa',aaW] at hd;subst hd;exact⟨_,rfl,.inr ⟨_,_,_,_,_,h1,h2,by simpa using h3,h4.Ls _,tq.1 h5,rfl⟩⟩
  |succ i=>exact ih.2 i d (by simpa using hd)
theorem LZ{g:G}{w:World}{H:List HE}{ids:List Nat}{id s cap:Nat}{l:List D}{e:TypeId}{a:Option Addr}(hw:aQ g w H)(hH:H[id]?=some (.bn l e s))(hs:∀ x∈l,x.cells.length=s)(hid:id∈ids)(ht:g.τ id=some (0,a,cap)):
  aV (fun b o=>g.Pr b o∨J9 g H ids b o) w (.sl l) (.slice a l.length cap):=by
 obtain⟨a0,sk,f1,f2,f3,f4⟩:=hw.bn id l e s hH
 rw[f1] at ht;injection ht with ht;injection ht with _ ht;injection ht with h1 h2
 subst h1;subst h2
 have mono:∀ b o,g.Pr b o→(g.Pr b o∨J9 g H ids b o)∧w.cell? ⟨b,o,none⟩=w.cell? ⟨b,o,none⟩:=fun b o h=>⟨.inl h,rfl⟩
 refine .sl l a0 sk s (fun k=>match a0 with|some ad=>(w.cell? ⟨ad.block,k,none⟩).getD undef|none=>undef) hs f2 (fun DH=>?_) (fun k x hx=>?_)
 ·have rR:0<l.length:=abA.2 DH
  have hc:0<sk:=by omega
  obtain⟨b,arr,rfl,q0,q2,q3,q4,q5⟩:=f4 hc
  refine⟨b,0,rfl,fun k hk=>⟨.inr ⟨id,l,e,s,hid,hH,by simp[G.aD,f1,hc],by omega⟩,?_⟩⟩
  have zo:k<arr.size:=by
   rw[q3];exact aa_ hk (abg _ f2)
  simp only[abY,aL q2]
  simp[zo]
 ·have Aw:=dG hs
  have xA:k<l.length*s:=au
  have hc:0<sk:=au
  obtain⟨b,arr,rfl,q0,q2,q3,q4,q5⟩:=f4 hc
  have zo:k<arr.size:=by
   rw[q3];exact aa_ xA (abg _ f2)
  simp only[aL q2]
  have:arr[k]?=some arr[k]:=by simp[zo]
  rw[this]
  exact(q5 k x _ hx this).mono mono
def E6(k:IntKind)(a b:Int):Option Int:=if b<0 then none else some (k.wrap (a*2^(min b.toNat k.bits)))
def He(k:IntKind)(a b:Int):Option Int:=if b<0 then none else some (a.fdiv (2^(min b.toNat k.bits)))
section
variable {P:Program}{ρ:Operand→V}{H:List HE}{ty:TypeId}
theorem IP{x y:Operand}{t u:TypeId}{k yk:IntKind}{a b c:Int}(hx:As (ρ x) (.int k a))(hy:As (ρ y) (.int yk b))(hv:E6 k a b=some c):bj P (.binOp .shl t x y u) ty ρ H (.d (.int k c)) H:=by
 unfold E6 at hv
 split at hv
 ·cases hv
 ·rename_i h0
  injection hv with hv;subst hv
  exact bj.aW fun g w r hw h=>⟨_,fun _ _ _ _=>by simp[execOp,hx.int (h x (by simp[Op.operands])),hy.int (h y (by simp[Op.operands])),eqGuard,binOp,Op.shift,h0],.d (.int _ _)⟩
theorem DK{x y:Operand}{t u:TypeId}{k yk:IntKind}{a b c:Int}(hx:As (ρ x) (.int k a))(hy:As (ρ y) (.int yk b))(hv:He k a b=some c):bj P (.binOp .shr t x y u) ty ρ H (.d (.int k c)) H:=by
 unfold He at hv
 split at hv
 ·cases hv
 ·rename_i h0
  injection hv with hv;subst hv
  exact bj.aW fun g w r hw h=>⟨_,fun _ _ _ _=>by simp[execOp,hx.int (h x (by simp[Op.operands])),hy.int (h y (by simp[Op.operands])),eqGuard,binOp,Op.shift,h0],.d (.int _ _)⟩
theorem Pk{wh:Operand}{f:FuncId}{args:Array Operand}{ts:Array TypeId}{ds:List D}{res:D}(ids:List Nat)(hc:∀ (a:Array Value) (w:World),(callFunc f a).run P w=.ok (.enter f a) w)
  (hf:Is (ρ wh) (.fn (.func f) []))(ha:yQ ρ H ids args.toList ds)(h:Fn P f ds res)(hp:res.DJ=true):bj P (.call ⟨.value wh,args,ts⟩) ty ρ H (.d res) H:=by
 intro g w r pos after guard dst hw hx
 have mG:∀ z,z∈args.toList→z∈(Op.call ⟨.value wh,args,ts⟩).operands:=fun z hz=>by
  simp only[Op.operands,Call.operands];exact adu.2 (.inr (by simpa using hz))
 have tr:=hf.rep (hx wh (by simp[Op.operands,Call.operands]))
 generalize Su:r wh=fv at tr
 cases tr with
 |@fn _ _ arr dE gM=>
  have h0:arr=#[]:=au
  subst h0
  let g0:G:={σ:=fun _=>none,τ:=fun _=>none,υ:=fun _ _=>False,X:=fun _=>False,Pr:=fun b o=>g.Pr b o∨J9 g H ids b o }
  have Sv:∀ b o,J9 g H ids b o→g.X b:=by
   rintro b o ⟨id,l,e,s,_,h1,h2,_⟩
   exact hw.aD id _ b h1 h2
  have bR:aQ g0 w []:=by
   refine⟨fun b o hp=>?_,fun b hb=>hb.elim,?_,?_,?_,?_,?_,?_,fun _ _=>⟨rfl,rfl,fun _ h=>h⟩,fun x hx=>⟨fun h=>h,fun o ho=>.inl ((hw.kc x hx).2.1 o ho),(hw.kc x hx).2.2⟩⟩
   ·rcases hp with hp|hp
    ·exact hw.pr b o hp
    ·exact hw.xs b (Sv b o hp)
   all_goals intros;simp_all
  have sn:=h g0 w (args.map r) bR (by have:=ha.get.1;simp at this ⊢;omega) (fun i x v kB hv=>by
   simp only[aba,aa6] at kB
   obtain⟨d,hd,rfl⟩:=kB
   obtain⟨y,hy,hyd⟩:=ha.get.2 i d hd
   have Yc:v=r y:=au
   subst Yc
   have Lu:=hx y (mG y (abc hy))
   rcases hyd with has|⟨l,id,len,s,e,k1,k2,k3,k4,k5,rfl⟩
   ·exact .d ((has.rep Lu).mono (fun b o hp=>⟨.inl hp,rfl⟩))
   ·have hh:=k1.rep Lu
    obtain⟨a0,sk,f1,_⟩:=hw.bn id l e s k2
    generalize Yd:r y=rr at hh
    cases hh with
    |@hs _ _ _ _ m eZ n0 c0 a' Yb p1 p2=>
     rw[f1] at p1;injection p1 with p1;injection p1 with p1 p3;injection p3 with p3 p4
     obtain⟨r1,r2,r3,_⟩:=pV (p2 p1.symm)
     have:=LZ (ids:=ids) hw k2 k4 k5 f1
     subst r1;subst r3;subst p3;subst p4
     rw[r2,←k3]
     exact .d this)
  unfold aO
  simp only[execOp,resolve,Su,Deferred.ofValue,abl,abu,aa3,invoke,adC,Array.append_empty,hc]
  refine sn.mono ?_
  rintro e w' ⟨rv,aag,g',H2,rfl,lN,he,hr,rfl⟩
  let g2:G:={σ:=g.σ,τ:=g.τ,υ:=g.υ,X:=g.X,Pr:=fun b o=>g'.Pr b o∧¬∃ o',J9 g H ids b o' }
  have aY:∀ b,b<w.heap.size→w'.heap[b]?=w.heap[b]?:=fun b hb=>he.aY b hb (fun h=>h)
  have Rl:∀ b o,g.Pr b o→¬∃ o',J9 g H ids b o':=by
   rintro b o hp ⟨o',id,l,e,s,_,h1,h2,_⟩
   obtain⟨a,cap,k1,k2,k3,k4⟩:=hw.bn id l e s h1
   simp only[G.aD,k1,aaQ] at h2
   exact au
  have bK:cG g w g2 w':={
   same:=he.same
   size:=he.size
   pr:=fun b o hp=>⟨⟨(he.pr b o (.inl hp)).1,Rl b o hp⟩,(he.pr b o (.inl hp)).2⟩
   pK:=fun b o hp=>by
    rcases he.pK b o hp.1 with h1|h1|h1
    ·exact au
    ·exact h1.elim
    ·exact au
   x:=fun b hb=>.inl hb
   aY:=fun b hb _=>aY b hb
   σ:=fun _ _ h=>h
   τ:=fun _ m a cap h=>⟨m,a,cap,h,.inr ⟨rfl,rfl,rfl⟩⟩}
  have hold:∀ b o,g2.Pr b o→b<w.heap.size→g.Pr b o:=by
   rintro b o ⟨hp,hn⟩ hb
   rcases he.pK b o hp with h1|h1|h1
   ·exact au
   ·exact h1.elim
   ·omega
  refine⟨rv,rfl,g2,⟨fun b o hp=>lN.pr b o hp.1,fun b hb=>aa_ (hw.xs b hb) he.size,hw.aD,hw.sep,?_,?_,?_,?_,hw.free,hw.Ca bK⟩,bK,?_⟩
  ·intro id c hc
   obtain⟨b,arr,et,h1,h2,h3,h4,h5⟩:=hw.row id c hc
   have hb:b<w.heap.size:=hw.xs b (hw.aD id _ b hc h1)
   exact⟨b,arr,et,h1,(aY b hb).trans h2,h3,fun k x v hx hv=>(h4 k x v hx hv).mono bK,fun o hp=>h5 o (hold b o hp hb)⟩
  ·intro id n e s hn
   obtain⟨a,cap,h1,h2,Dy,h3⟩:=hw.tok id n e s hn
   exact au
  ·intro id l e s hn
   obtain⟨a,cap,h1,h2,Dy,h3⟩:=hw.bn id l e s hn
   refine⟨a,cap,h1,h2,Dy,fun aN=>?_⟩
   obtain⟨b,arr,e1,e0,e2,e3,e4,e5⟩:=h3 aN
   have hb:b<w.heap.size:=hw.xs _ (hw.aD id _ b hn (by simp[G.aD,h1,e1,aN]))
   exact⟨b,arr,e1,e0,(aY _ hb).trans e2,e3,fun o hp=>e4 o (hold _ o hp hb),fun k x v hx hv=>(e5 k x v hx hv).mono bK.pr⟩
  ·intro id x hx
   obtain⟨b,h1,h2,h3,h4⟩:=hw.ob id x hx
   have hb:b<w.heap.size:=hw.xs b (hw.aD id _ b hx (.inl h1))
   have Rh:∀ b',g.υ id b'→b'<w.heap.size:=fun b' h=>hw.xs b' (hw.aD id _ b' hx (.inr h))
   exact⟨b,h1,x.st bK.w rfl rfl (aY b hb) (fun b' h=>aY b' (Rh b' h)) h2,fun o hp=>h3 o (hold b o hp hb),fun b' o h hp=>h4 b' o h (hold b' o hp (Rh b' h))⟩
  ·cases hr with
   |d hd=>exact .d (hd.plain hp)
end
end Go.Proofs.YtjdnbobilgamdaaGreatDoor.Ab
end
section
namespace Go.Proofs.YtjdnbobilgamdaaGreatDoor.Ab
open Go
abbrev Lw(a b:List UInt8):Bool:=Go.Op.bytesLess a b
section
variable {P:Program}{ρ:Operand→V}{H:List HE}{ty:TypeId}{x y:Operand}{t u:TypeId}{s s':List UInt8}
theorem Pm(hx:As (ρ x) (.str s))(hy:As (ρ y) (.str s')):bj P (.binOp .geq t x y u) ty ρ H (.d (.bool (!Lw s s'))) H:=
 bj.aW fun _ _ _ _ h=>⟨.bool (!Lw s s'),fun _ _ _ _=>by simp[execOp,hx.str (h x (by simp[Op.operands])),hy.str (h y (by simp[Op.operands])),eqGuard,binOp,Op.stringOp],.d (.bool _)⟩
theorem Pn(hx:As (ρ x) (.str s))(hy:As (ρ y) (.str s')):bj P (.binOp .leq t x y u) ty ρ H (.d (.bool (Lw s s'||decide (s=s')))) H:=
 bj.aW fun _ _ _ _ h=>⟨.bool (Lw s s'||decide (s=s')),fun _ _ _ _=>by simp[execOp,hx.str (h x (by simp[Op.operands])),hy.str (h y (by simp[Op.operands])),eqGuard,binOp,Op.stringOp,AH],.d (.bool _)⟩
end
end Go.Proofs.YtjdnbobilgamdaaGreatDoor.Ab
end
section
namespace Go.Proofs.YtjdnbobilgamdaaGreatDoor.Ab
open Go
theorem aQ.wi{g:G}{w:World}{H:List HE}{id n s:Nat}{l:List D}{e:TypeId}(hw:aQ g w H)(hH:H[id]?=some (.bn l e s))(hn:H[n]?=some .free):
  ∃ g',aQ g' w ((H.set id .dead).set n (.bn l e s))∧cG g w g' w∧g'.τ n=g.τ id∧g'.σ n=g.σ id∧g'.Pr=g.Pr∧g'.τ id=g.τ id:=by
 have eC:id<H.length:=(aaS.1 hH).1
 have Po:n<H.length:=(aaS.1 hn).1
 have aR:n≠id:=fun h=>by subst h;rw[hH] at hn;cases hn
 obtain⟨G9,DF,J8⟩:=hw.free n (.inl hn)
 let g':G:={σ:=fun i=>if i=n then g.σ id else g.σ i,τ:=fun i=>if i=n then g.τ id else g.τ i,υ:=g.υ,X:=g.X,Pr:=g.Pr }
 have pN:∀ i,i≠n→g'.σ i=g.σ i:=fun i h=>by simp[g',h]
 have gN:∀ i,i≠n→g'.τ i=g.τ i:=fun i h=>by simp[g',h]
 have bK:cG g w g' w:={
  same:=⟨rfl,rfl,rfl⟩
  size:=aaZ _
  pr:=fun b o hp=>⟨hp,rfl⟩
  pK:=fun b o h=>.inl h
  x:=fun b h=>.inl h
  aY:=fun b _ _=>rfl
  σ:=fun i b h=>by
   exact au
  τ:=fun i m a cap h=>by
   have:i≠n:=fun e=>by subst e;rw[DF] at h;cases h
   exact⟨m,a,cap,by rw[gN i this];exact h,.inr ⟨rfl,rfl,rfl⟩⟩}
 have ax:∀ (i:Nat) x,((H.set id .dead).set n (.bn l e s))[i]?=some x→(i=n∧x=.bn l e s)∨(i=id∧x=.dead)∨(i≠n∧i≠id∧H[i]?=some x):=au
 have hblk:∀ (i:Nat) x b,((H.set id .dead).set n (.bn l e s))[i]?=some x→g'.aD i x b→∃ j,H[j]?=some x∧g.aD j x b∧((i=n∧j=id)∨(i≠n∧j=i∧i≠id)):=by
  intro i x b he hb
  rcases ax i x he with ⟨rfl,rfl⟩|⟨rfl,rfl⟩|⟨h1,h2,h3⟩
  ·exact⟨id,hH,by simpa[G.aD,g'] using hb,.inl ⟨rfl,rfl⟩⟩
  ·simp[G.aD] at hb
  ·refine⟨i,h3,?_,.inr ⟨h1,rfl,h2⟩⟩
   cases x<;>simp only[G.aD,pN i h1,gN i h1] at hb ⊢<;>exact hb
 refine⟨g',⟨hw.pr,hw.xs,?_,?_,?_,?_,?_,?_,?_,hw.kc⟩,bK,by simp[g'],by simp[g'],rfl,gN id (acN aR)⟩
 ·intro i x b he hb
  obtain⟨j,h1,h2,_⟩:=hblk i x b he hb
  exact hw.aD j x b h1 h2
 ·intro i i' x x' b he qj hb dD
  obtain⟨j,h1,h2,h3⟩:=hblk i x b he hb
  obtain⟨j',h4,h5,h6⟩:=hblk i' x' b qj dD
  have:=hw.sep j j' x x' b h1 h4 h2 h5
  omega
 ·intro i c he
  rcases ax i _ he with ⟨_,h⟩|⟨_,h⟩|⟨h1,h2,h3⟩
  ·cases h
  ·cases h
  ·obtain⟨b1,dx,sj,k1,k2,k3,k4,k5⟩:=hw.row i c h3
   exact⟨b1,dx,sj,by rw[pN i h1];exact k1,k2,k3,fun k x v hx hv=>(k4 k x v hx hv).mono bK,k5⟩
 ·intro i m e1 s1 he
  rcases ax i _ he with ⟨_,h⟩|⟨_,h⟩|⟨h1,h2,h3⟩
  ·cases h
  ·cases h
  ·obtain⟨a,cap,k1,k2⟩:=hw.tok i m e1 s1 h3
   exact au
 ·intro i l1 e1 s1 he
  rcases ax i _ he with ⟨rfl,h⟩|⟨_,h⟩|⟨h1,h2,h3⟩
  ·injection h with q1 q2 q3
   subst q1;subst q2;subst q3
   obtain⟨a,cap,k1,k2,k3,k4⟩:=hw.bn id l1 e1 s1 hH
   exact au
  ·cases h
  ·obtain⟨a,cap,k1,k2,k3,k4⟩:=hw.bn i l1 e1 s1 h3
   exact au
 ·intro i x he
  rcases ax i _ he with ⟨_,h⟩|⟨_,h⟩|⟨h1,h2,h3⟩
  ·cases h
  ·cases h
  ·obtain⟨b1,k1,k2,k3,k4⟩:=hw.ob i x h3
   exact⟨b1,by rw[pN i h1];exact k1,x.st bK.w (gN i h1) rfl rfl (fun _ _=>rfl) k2,k3,k4⟩
 ·intro i hi
  have h1:i≠n:=au
  rw[pN i h1,gN i h1]
  refine hw.free i ?_
  exact au
theorem aQ.kill{g:G}{w:World}{H:List HE}{id:Nat}{e0:HE}(hw:aQ g w H)(hH:H[id]?=some e0)(_h0:e0≠.free):aQ g w (H.set id .dead):=by
 have eC:id<H.length:=(aaS.1 hH).1
 have ax:∀ (i:Nat) x,(H.set id .dead)[i]?=some x→x=.dead∨H[i]?=some x:=au
 refine⟨hw.pr,hw.xs,?_,?_,?_,?_,?_,?_,?_,hw.kc⟩
 ·intro i x b he hb
  rcases ax i x he with rfl|h
  ·simp[G.aD] at hb
  ·exact hw.aD i x b h hb
 ·intro i i' x x' b he qj hb dD
  rcases ax i x he with rfl|h
  ·simp[G.aD] at hb
  ·rcases ax i' x' qj with rfl|h'
   ·simp[G.aD] at dD
   ·exact hw.sep i i' x x' b h h' hb dD
 ·intro i c he
  rcases ax i _ he with h|h
  ·cases h
  ·exact hw.row i c h
 ·intro i m e1 s1 he
  rcases ax i _ he with h|h
  ·cases h
  ·exact hw.tok i m e1 s1 h
 ·intro i l e1 s1 he
  rcases ax i _ he with h|h
  ·cases h
  ·exact hw.bn i l e1 s1 h
 ·intro i x he
  rcases ax i _ he with h|h
  ·cases h
  ·exact hw.ob i x h
 ·intro i hi
  refine hw.free i ?_
  exact au
section
variable {P:Program}{ρ:Operand→V}{H:List HE}{ty:TypeId}
theorem CH(H:List HE)(id:Nat)(e:HE)(h:id<H.length):(((H++[HE.free]).set id .dead).set H.length e)=(H.set id .dead)++[e]:=au
theorem Hf{x y:Operand}{t e s bytes id n len:Nat}{l l':List D}(ht:pt P t e s bytes)(hx:Is (ρ x) (.hs id 0 len s))(hy:As (ρ y) (.sl l'))(hH:H[id]?=some (.bn l e s))(Sw:l.length=len)(hn:H.length=n)
  (hs:∀ x∈l++l',x.cells.length=s)(eL:∀ x∈l',∀ y∈x.cells,y.one=true)(iv:(l++l').length*bytes≤140737488355328)(hlen:(l++l').length≤4611686018427387904):
  bj P (.call ⟨.builtin .append,#[x,y],#[t,t]⟩) ty ρ H (.hs n 0 (l++l').length s) (H.set id .dead++[.bn (l++l') e s]):=by
 subst hn;subst Sw
 intro g w r pos after guard dst hw h
 have h1:=hx.rep (h x (by simp[Op.operands,Call.operands]))
 have h2:=hy.rep (h y (by simp[Op.operands,Call.operands]))
 have eC:id<H.length:=(aaS.1 hH).1
 obtain⟨a,cap,k1,k2,k3,k4⟩:=hw.bn id l e s hH
 generalize fQ:r x=vx at h1
 cases h1 with
 |@hs _ _ _ _ m eZ n0 c0 a' a0 p1 p2=>
  rw[k1] at p1;injection p1 with p1;injection p1 with p1 p3;injection p3 with p3 p4
  obtain⟨q1,q2,q3,_⟩:=pV (p2 p1.symm)
  subst q1;subst q3;subst p3;subst p4;subst q2
  have Vb:(H++[HE.free])[id]?=some (.bn l e s):=au
  have tr:(H++[HE.free])[H.length]?=some .free:=by simp
  suffices wj:∃ rv w' g',(Builtin.append_ #[t,t] ty #[.slice a l.length cap,r y]).run P w=.ok rv w'∧aQ g' w' (((H++[HE.free]).set id .dead).set H.length (.bn (l++l') e s))∧cG g w g' w'∧cu g' w' (.hs H.length 0 (l++l').length s) rv by
   obtain⟨rv,w',g',e1,e2,e3,e4⟩:=wj
   unfold aO
   have:(execOp r ⟨dst,.call ⟨.builtin .append,#[x,y],#[t,t]⟩,ty,pos,after,guard⟩).run P w=.ok (.value rv) w':=by
    simp[execOp,resolve,invoke,builtin,fQ,e1]
   rw[this]
   rw[CH _ _ _ eC] at e2
   exact au
  by_cases rS:l'=[]
  ·subst rS
   obtain⟨a',eZ,Hg,_⟩:=kE h2
   rw[Hg]
   obtain⟨g',w1,w2,w3,_⟩:=hw.il.wi Vb tr
   refine⟨_,w,g',jw ht k2,by simpa using w1,w2,?_⟩
   rw[acz]
   exact .hs (w3.trans k1) (fun _=>⟨rfl,rfl,rfl,k2⟩)
  ·have rR:0<l'.length:=abA.2 rS
   obtain⟨ie,z,im,dE,yP,ug,CE⟩:=ht.i
   have Hi:∀ x∈l,x.cells.length=s:=fun x hx=>hs x (by simp[hx])
   have AI:∀ x∈l',x.cells.length=s:=fun x hx=>hs x (by simp[hx])
   obtain⟨b',o',eZ,f',Hg,_,JZ,E7,L0⟩:=h2.tt AI eL rS
   rw[Hg]
   have fl:=dG Hi
   have px:∀ (j:Nat) v,((List.range (l'.length*s)).map f')[j]?=some v→w.cell? ((⟨b',o',none⟩:Addr).add j)=some v:=by
    intro j v hv
    have hj:j<l'.length*s:=au
    rw[cJ _ _ _ hj] at hv
    rw[Addr.aT,(JZ j hj).2];exact hv
   have E8:∀ u∈(List.range (l'.length*s)).map f',u.oneCell'=true:=au
   have hmul:(l.length+l'.length)*s=l.length*s+l'.length*s:=abV _ _ _
   have cont:∀ (ki:List Value),(∀ (k:Nat) x v,(D.flat l)[k]?=some x→ki[k]?=some v→aV g.Pr w x v)→(∀ (k:Nat),k<l'.length*s→ki[l.length*s+k]?=some (f' k))→
     ∀ (k:Nat) x v,(D.flat (l++l'))[k]?=some x→ki[k]?=some v→aV g.Pr w x v:=by
    intro ki c1 c2 k x v hx hv
    rw[pY] at hx
    by_cases xA:k<l.length*s
    ·exact au
    ·rw[aaY (by omega),fl] at hx
     have oJ:k-l.length*s<l'.length*s:=by
      have:=(aaS.1 hx).1
      rw[dG AI] at this;exact this
     exact au
   by_cases jd:l.length+l'.length≤cap
   ·obtain⟨b,arr,rfl,uE,hb,jj,J_,Sx⟩:=k4 (by omega)
    have zp:l.length*s+l'.length*s≤arr.size:=by
     rw[jj,←hmul];exact abg _ jd
    have dz:=run_append_room (P:=P) w t ty e ie ht.u im b l.length cap arr hb ⟨b',o',none⟩ l'.length eZ ((List.range (l'.length*s)).map f') (by simp[dE]) px E8 jd (by rw[dE];simpa using zp)
    rw[dE] at dz
    obtain⟨g1,w1,w2,w3,w4,w5,_⟩:=hw.il.wi Vb tr
    have key:=aQ.pw (w':=w.setRow b (arr.toList.take (l.length*s)++(List.range (l'.length*s)).map f'++arr.toList.drop (l.length*s+((List.range (l'.length*s)).map f').length)).toArray) (l':=l++l')
     (arr':=(arr.toList.take (l.length*s)++(List.range (l'.length*s)).map f'++arr.toList.drop (l.length*s+((List.range (l'.length*s)).map f').length)).toArray) (cap:=cap) (b:=b) w1 (id:=H.length) (by rw[acg (by simp)]) (w3.trans k1) (by omega) (w4.trans uE)
     ⟨rfl,rfl,rfl⟩ (acJ w b _) (acR w b arr _ e _ hb) (fun Pj aR=>acQ w b Pj _ aR) (by simpa using jd) (by simp;omega)
     (by
      rw[w5]
      intro k x v hx hv
      rw[aca] at hv
      refine cont _ (fun k x v hx hv=>?_) (fun k hk=>?_) k x v hx hv
      ·have xA:k<l.length*s:=by rw[←fl];exact(aaS.1 hx).1
       rw[abk,aa1 (by simp;omega),abj,aa2 xA,aa0] at hv
       exact au
      ·rw[abk,aaY (by simp;omega),aa1 (by simp;omega)]
       have:l.length*s+k-(List.take (l.length*s) arr.toList).length=k:=by simp;omega
       rw[this];exact cJ f' _ _ hk)
    refine⟨_,_,g1,dz,?_,w2.trans key.2,?_⟩
    ·have:=key.1
     rwa[List.set_set] at this
    ·exact .hs (w3.trans k1) (fun _=>⟨rfl,by simp,rfl,by simpa using jd⟩)
   ·simp only[aa9] at iv hlen
    let dR:=l.length+l'.length
    let C:=grownCap w dR cap e
    have hC:dR≤C:=adV w dR cap e
    have J':C≤9223372036854775807:=by
     have:=ac9 w dR cap e (by simp only[maxLen];omega)
     exact au
    have lP:cap<l.length+l'.length:=by omega
    obtain⟨gf,yR,dz,Pp⟩:∃ (gf:List Value),gf.length=l.length*s∧
      (Builtin.append_ #[t,t] ty #[.slice a l.length cap,.slice (some ⟨b',o',none⟩) l'.length eZ]).run P w=
       .ok (.slice (some ⟨w.heap.size,0,none⟩) dR C) (w.drew.alloc (.cells (gf.toArray++((List.range (l'.length*s)).map f').toArray++Builtin.zeroCells z.cells (C-dR)) e))∧
      (∀ (k:Nat) x v,(D.flat l)[k]?=some x→gf[k]?=some v→aV g.Pr w x v):=by
     by_cases Rm:cap=0
     ·have Ye:l=[]:=acm (by omega)
      subst Ye
      refine⟨[],by simp,?_,by simp[D.flat]⟩
      cases a with
      |none=>
       subst Rm
       have:=run_append_nil (P:=P) w t ty e ie z ht.u im ug ⟨b',o',none⟩ l'.length eZ ((List.range (l'.length*s)).map f') (by simp[dE]) px rR (by omega) (by rw[yP];simp at iv;omega)
       simpa[dR,C] using this
      |some ad=>
       have:=adD (P:=P) w t ty e ie z ht.u im ug ad 0 cap [] (by simp) (by simp) ⟨b',o',none⟩ l'.length eZ ((List.range (l'.length*s)).map f') (by simp[dE]) px
        (by simpa using lP) (by simp at hlen ⊢;omega) (ac8 (by simpa using lP) (by rw[yP];simpa using iv))
       simpa[dR,C] using this
     ·obtain⟨b,arr,rfl,uE,hb,jj,J_,Sx⟩:=k4 (by omega)
      have zp:l.length*s≤arr.size:=by rw[jj];exact abg _ k2
      refine⟨arr.toList.take (l.length*s),by simp;omega,?_,fun k x v hx hv=>?_⟩
      ·have:=adD (P:=P) w t ty e ie z ht.u im ug ⟨b,0,none⟩ l.length cap (arr.toList.take (l.length*s)) (by simp[dE];omega) (fun j v hv=>by
        rw[Addr.aT,abY,aL hb]
        rw[abj] at hv
        split at hv
        ·exact au
        ·cases hv) ⟨b',o',none⟩ l'.length eZ ((List.range (l'.length*s)).map f') (by simp[dE]) px
        (by simpa using lP) (by simp at hlen ⊢;omega) (ac8 (by simpa using lP) (by rw[yP];simpa using iv))
       simpa[dR,C] using this
      ·exact au
    have L1:=hw.il.kill Vb (by simp)
    have IQ:(Builtin.zeroCells z.cells (C-dR)).size=(C-dR)*s:=by simp[Builtin.zeroCells,CE]
    obtain⟨g',w1,w2,w3⟩:=L1.AB (w':=w.drew.alloc (.cells (gf.toArray++((List.range (l'.length*s)).map f').toArray++Builtin.zeroCells z.cells (C-dR)) e)) (id:=H.length) (l:=l++l') (s:=s) (cap:=C)
     (arr:=gf.toArray++((List.range (l'.length*s)).map f').toArray++Builtin.zeroCells z.cells (C-dR)) (et:=e) (by rw[abR (by omega)];exact tr) ⟨rfl,rfl,rfl⟩ rfl (by simpa[dR] using hC) J'
     (by
      have hC':C*s=(l.length*s+l'.length*s)+(C-dR)*s:=by
       rw[←hmul,←Nat.add_mul];congr 1;exact(Nat.add_sub_cancel' hC).symm
      simp only[adj,adh,aa4,adG,yR,IQ]
      omega)
     (by
      intro k x v hx hv
      rw[←Array.getElem?_toList] at hv
      refine cont _ (fun k x v hx hv=>?_) (fun k hk=>?_) k x v hx hv
      ·exact au
      ·simp only[adS,abk]
       rw[aaY (by omega),yR,aec,aa1 (by simpa using hk)]
       exact cJ f' _ _ hk)
    exact⟨_,_,g',dz,w1,w2,.hs w3 (fun _=>⟨rfl,by simp[dR],rfl,by simpa[dR] using hC⟩)⟩
theorem yS{α:Type}{f:α→D}{l l' r:List α}{x y:Operand}{t e s bytes id n len:Nat}(ht:pt P t e s bytes)(hx:Is (ρ x) (.hs id 0 len s))(hy:As (ρ y) (.sl (l'.map f)))(hH:H[id]?=some (.bn (l.map f) e s))(hl:l.length=len)(hn:H.length=n)
  (hf:En f s)(hv:app bytes l l'=some r):bj P (.call ⟨.builtin .append,#[x,y],#[t,t]⟩) ty ρ H (.hs n 0 r.length s) (H.set id .dead++[.bn (r.map f) e s]):=by
 unfold app at hv
 split at hv
 ·rename_i h
  injection hv with hv;subst hv
  have:=Hf (ty:=ty) ht hx hy hH (by simpa using hl) hn (by rw[←List.map_append];exact hf.Ls _) (hf.LP _) (by simp only[aa9,aa4];exact h.1) (by simp only[aa9,aa4];exact h.2)
  exact au
 ·cases hv
end
theorem AW.DL{F:FC}{Q:Exit→St→Prop}{c:Code}{E:Nat→V}{H:List HE}(t:Nat)(e:TypeId)(s:Nat){n:Nat}(ht:E t=.ex [])(hn:H.length=n)
  (h:AW F c Q ⟨Hc E t (.hs n 0 0 s),H++[.bn [] e s]⟩):AW F c Q ⟨E,H⟩:=by
 subst hn
 rintro a w ⟨h1,h2,g,h3,h4,h5⟩
 have hr:=h5 t
 simp only[ht] at hr
 generalize hv:a.tmps.getD t undef=v at hr
 cases hr with
 |@ex _ ad hd=>
  obtain⟨G9,DF,J8⟩:=h3.free H.length (.inr (aaZ _))
  let g':G:={σ:=g.σ,τ:=fun i=>if i=H.length then some (0,ad,0) else g.τ i,υ:=g.υ,X:=g.X,Pr:=g.Pr }
  have gN:∀ i,i≠H.length→g'.τ i=g.τ i:=fun i h=>by simp[g',h]
  have mw:g'.τ H.length=some (0,ad,0):=by simp[g']
  have bK:cG g w g' w:={
   same:=⟨rfl,rfl,rfl⟩
   size:=aaZ _
   pr:=fun b o hp=>⟨hp,rfl⟩
   pK:=fun b o h=>.inl h
   x:=fun b h=>.inl h
   aY:=fun b _ _=>rfl
   σ:=fun i b h=>h
   τ:=fun i m a c h=>by
    have:i≠H.length:=fun e=>by subst e;rw[DF] at h;cases h
    exact⟨m,a,c,by rw[gN i this];exact h,.inr ⟨rfl,rfl,rfl⟩⟩}
  have ax:∀ (i:Nat) x,(H++[HE.bn [] e s])[i]?=some x→(i=H.length∧x=.bn [] e s)∨(i≠H.length∧H[i]?=some x):=au
  have hblk:∀ (i:Nat) x b,(H++[HE.bn [] e s])[i]?=some x→g'.aD i x b→H[i]?=some x∧g.aD i x b:=by
   intro i x b hx hb
   rcases ax i x hx with ⟨rfl,rfl⟩|⟨hi,h⟩
   ·simp[G.aD,mw] at hb
   ·refine⟨h,?_⟩
    cases x<;>simp only[G.aD,gN i hi] at hb ⊢<;>exact hb
  refine h a w ⟨h1,h2,g',⟨h3.pr,h3.xs,?_,?_,?_,?_,?_,?_,?_,h3.Ca bK⟩,h4.trans bK,fun i=>?_⟩
  ·intro i x b hx hb
   obtain⟨k1,k2⟩:=hblk i x b hx hb
   exact h3.aD i x b k1 k2
  ·intro i i' x x' b hx kB hb dD
   obtain⟨k1,k2⟩:=hblk i x b hx hb
   obtain⟨k3,k4⟩:=hblk i' x' b kB dD
   exact h3.sep i i' x x' b k1 k3 k2 k4
  ·intro i c hx
   rcases ax i _ hx with ⟨_,h⟩|⟨hi,h⟩
   ·cases h
   ·obtain⟨b1,dx,sj,k1,k2,k3,k4,k5⟩:=h3.row i c h
    exact⟨b1,dx,sj,k1,k2,k3,fun k x v hx hv=>(k4 k x v hx hv).mono bK,k5⟩
  ·intro i m e1 s1 hx
   rcases ax i _ hx with ⟨_,h⟩|⟨hi,h⟩
   ·cases h
   ·obtain⟨a,cap,k1,k2⟩:=h3.tok i m e1 s1 h
    exact au
  ·intro i l1 e1 s1 hx
   rcases ax i _ hx with ⟨rfl,h⟩|⟨hi,h⟩
   ·exact au
   ·obtain⟨a,cap,k1,k2⟩:=h3.bn i l1 e1 s1 h
    exact au
  ·intro i x hx
   rcases ax i _ hx with ⟨_,h⟩|⟨hi,h⟩
   ·cases h
   ·obtain⟨b1,k1,k2,k3,k4⟩:=h3.ob i x h
    exact⟨b1,k1,x.st bK.w (gN i hi) rfl rfl (fun _ _=>rfl) k2,k3,k4⟩
  ·intro i hi
   have aR:i≠H.length∧(H[i]?=some .free∨H.length≤i):=au
   rw[gN i aR.1]
   exact h3.free i aR.2
  ·by_cases hi:i=t
   ·subst hi
    simp only[mP,hv]
    exact .hs mw (fun _=>⟨rfl,rfl,rfl,aaZ _⟩)
   ·simp only[AG _ _ hi];exact(h5 i).mono bK
end Go.Proofs.YtjdnbobilgamdaaGreatDoor.Ab
end
section
namespace Go.Proofs.YtjdnbobilgamdaaGreatDoor.Ab
open Go
def V.Ro(p:Nat→Nat):V→V
 |.ptr i o=>.ptr (p i) o
 |.tk i l=>.tk (p i) l
 |.hs i o n s=>.hs (p i) o n s
 |.mp i=>.mp (p i)
 |v=>v
def V.rn(p:Nat→Nat):V→V
 |.fn f l=>.fn f (l.map (V.Ro p))
 |.agg l=>.agg (l.map (V.Ro p))
 |.gd l=>.gd (l.map (V.Ro p))
 |v=>v.Ro p
def V.yT:V→Bool
 |.fn _ _|.agg _|.gd _|.when _ _=>false
 |_=>true
def V.simple:V→Bool
 |.fn _ l|.agg l|.gd l=>l.all V.yT
 |.when _ _=>false
 |_=>true
def HE.rn(p:Nat→Nat):HE→HE
 |.row c=>.row (c.map (V.rn p))
 |e=>e
def HE.simple:HE→Bool
 |.row c=>c.all V.simple
 |.ob x=>x.fr
 |_=>true
theorem jk{p:Nat→Nat}{g g':G}{w:World}(uE:∀ i,g'.σ (p i)=g.σ i)(uh:∀ i,g'.τ (p i)=g.τ i)(hP:g'.Pr=g.Pr){v:V}{r:Value}(hs:v.yT=true):cu g w v r↔cu g' w (v.Ro p) r:=by
 cases v<;>simp only[V.yT,aaU] at hs<;>simp only[V.Ro]
 case d=>exact⟨fun h=>by cases h with|d h=>exact .d (hP▸h),fun h=>by cases h with|d h=>exact .d (hP▸h)⟩
 case hs=>exact⟨fun h=>by cases h with|hs h1 h2=>exact .hs ((uh _).trans h1) h2,fun h=>by cases h with|hs h1 h2=>exact .hs ((uh _).symm.trans h1) h2⟩
 case ptr=>exact⟨fun h=>by cases h with|ptr h1=>exact .ptr ((uE _).trans h1),fun h=>by cases h with|ptr h1=>exact .ptr ((uE _).symm.trans h1)⟩
 case mp=>exact⟨fun h=>by cases h with|mp h1=>exact .mp ((uE _).trans h1),fun h=>by cases h with|mp h1=>exact .mp ((uE _).symm.trans h1)⟩
 case vp=>exact⟨fun h=>by cases h with|vp h1 h2=>exact .vp (by rw[hP];exact h1) (by rw[hP];exact h2),fun h=>by cases h with|vp h1 h2=>exact .vp (by rw[←hP];exact h1) (by rw[←hP];exact h2)⟩
 case tk=>exact⟨fun h=>by cases h with|tk h1 h2 h3 h4=>exact .tk (hP▸h1) ((uh _).trans h2) h3 h4,fun h=>by cases h with|tk h1 h2 h3 h4=>exact .tk (hP▸h1) ((uh _).symm.trans h2) h3 h4⟩
 case ex=>exact⟨fun h=>by cases h with|ex h=>exact .ex (hP▸h),fun h=>by cases h with|ex h=>exact .ex (hP▸h)⟩
 case nil=>exact⟨fun h=>by cases h;exact .nil,fun h=>by cases h;exact .nil⟩
 case any=>exact⟨fun _=>.any,fun _=>.any⟩
theorem L2{p:Nat→Nat}{g g':G}{w:World}(uE:∀ i,g'.σ (p i)=g.σ i)(uh:∀ i,g'.τ (p i)=g.τ i)(hP:g'.Pr=g.Pr){v:V}{r:Value}(hs:v.simple=true):cu g w v r↔cu g' w (v.rn p) r:=by
 have sub:∀ (l:List V),l.all V.yT=true→∀ (i:Nat) x,(l.map (V.Ro p))[i]?=some x→∃ y,l[i]?=some y∧x=y.Ro p∧y.yT=true:=au
 cases v with
 |fn f l=>
  simp only[V.simple] at hs
  simp only[V.rn]
  constructor
  ·intro h
   cases h with
   |fn h1 h2=>
    refine .fn (by simpa using h1) (fun i x v hx hv=>?_)
    obtain⟨y,hy,rfl,hf⟩:=sub l hs i x hx
    exact(jk uE uh hP hf).1 (h2 i y v hy hv)
  ·intro h
   cases h with
   |fn h1 h2=>
    refine .fn (by simpa using h1) (fun i x v hx hv=>?_)
    exact(jk uE uh hP (abi.1 hs x (abc hx))).2 (h2 i _ v (by simp[hx]) hv)
 |agg l=>
  simp only[V.simple] at hs
  simp only[V.rn]
  constructor
  ·intro h
   cases h with
   |agg h1 h2=>
    refine .agg (by simpa using h1) (fun i x v hx hv=>?_)
    obtain⟨y,hy,rfl,hf⟩:=sub l hs i x hx
    exact(jk uE uh hP hf).1 (h2 i y v hy hv)
  ·intro h
   cases h with
   |agg h1 h2=>
    refine .agg (by simpa using h1) (fun i x v hx hv=>?_)
    exact(jk uE uh hP (abi.1 hs x (abc hx))).2 (h2 i _ v (by simp[hx]) hv)
 |gd l=>
  simp only[V.simple] at hs
  simp only[V.rn]
  constructor
  ·intro h
   cases h with
   |gd h1 h2=>
    refine .gd (by simpa using h1) (fun i x v hx hv=>?_)
    obtain⟨y,hy,rfl,hf⟩:=sub l hs i x hx
    exact(jk uE uh hP hf).1 (h2 i y v hy hv)
  ·intro h
   cases h with
   |gd h1 h2=>
    refine .gd (by simpa using h1) (fun i x v hx hv=>?_)
    exact(jk uE uh hP (abi.1 hs x (abc hx))).2 (h2 i _ v (by simp[hx]) hv)
 |«when»=>simp[V.simple] at hs
 |d=>exact jk uE uh hP rfl
 |hs=>exact jk uE uh hP rfl
 |ptr=>exact jk uE uh hP rfl
 |mp=>exact jk uE uh hP rfl
 |vp=>exact jk uE uh hP rfl
 |tk=>exact jk uE uh hP rfl
 |ex=>exact jk uE uh hP rfl
 |nil=>exact jk uE uh hP rfl
 |any=>exact jk uE uh hP rfl
def mQ(ids:List Nat)(N:Nat)(i:Nat):Nat:=match ids[i]? with
 |some j=>j
 |none=>N+(i-ids.length)
def Ka:List Nat→Nat→Nat→Option Nat
 |[],_,_=>none
 |a::r,k,j=>cond (Nat.beq j a) (some k) (Ka r (k+1) j)
def loc(ids:List Nat)(N:Nat)(j:Nat):Option Nat:=match Ka ids 0 j with
 |some i=>some i
 |none=>if N≤j then some (j-N+ids.length) else none
theorem qD:∀ {ids:List Nat} {k j i:Nat},Ka ids k j=some i→k≤i∧ids[i-k]?=some j
 |a::r,k,j,i,h=>by
  simp only[Ka] at h
  cases hb:Nat.beq j a with
  |true=>
   rw[hb] at h;simp at h;subst h
   simp[acK hb]
  |false=>
   rw[hb] at h
   obtain⟨h1,h2⟩:=qD (ids:=r) (k:=k+1) h
   refine⟨by omega,?_⟩
   rw[show i-k=(i-(k+1))+1 by omega]
   simpa using h2
theorem xF:∀ {ids:List Nat} {k j:Nat},Ka ids k j=none→j∉ids
 |[],_,_,_=>by simp
 |a::r,k,j,h=>by
  simp only[Ka] at h
  cases hb:Nat.beq j a with
  |true=>rw[hb] at h;simp at h
  |false=>
   rw[hb] at h
   have h1:=xF (ids:=r) (k:=k+1) h
   have:j≠a:=fun e=>by subst e;simp at hb
   simp[this,h1]
theorem sq{ids:List Nat}{N j i:Nat}(_hN:∀ x∈ids,x<N)(h:loc ids N j=some i):mQ ids N i=j:=by
 unfold loc at h
 split at h
 ·rename_i i' h1
  injection h with h;subst h
  obtain⟨_,h2⟩:=qD h1
  simp only[adW] at h2
  simp[mQ,h2]
 ·split at h
  ·injection h with h;subst h
   have:ids[j-N+ids.length]?=none:=abv (by omega)
   simp only[mQ,this];omega
  ·cases h
theorem L3{ids:List Nat}{N j:Nat}(h:loc ids N j=none):j∉ids∧j<N:=by
 unfold loc at h
 split at h
 ·cases h
 ·rename_i h1
  split at h
  ·cases h
  ·exact⟨xF h1,by omega⟩
theorem L4{ids:List Nat}{N i:Nat}(hd:distinct ids=true)(hN:∀ x∈ids,x<N):loc ids N (mQ ids N i)=some i:=by
 have ON:∀ j,N≤j→j∉ids:=fun j hj hm=>by have:=hN j hm;omega
 by_cases hi:i<ids.length
 ·have hg:mQ ids N i=ids[i]:=by simp[mQ,hi]
  rw[hg]
  have mG:ids[i]∈ids:=acb hi
  unfold loc
  split
  ·rename_i i' h1
   obtain⟨_,h2⟩:=qD h1
   simp only[adW] at h2
   rw[oV hd h2 (aaV hi)]
  ·rename_i h1
   exact absurd mG (xF h1)
 ·have hg:mQ ids N i=N+(i-ids.length):=by
   have:ids[i]?=none:=abv (by omega)
   simp[mQ,this]
  rw[hg]
  unfold loc
  split
  ·rename_i i' h1
   obtain⟨_,h2⟩:=qD h1
   exact absurd (abc h2) (ON _ (by omega))
  ·exact au
def kj(H:List HE):List Nat→List HE→List HE
 |id::ids,e::es=>kj (H.set id e) ids es
 |_,_=>H
def uO(H:List HE)(ids:List Nat)(H0:List HE):List HE:=
 kj H ids ((H0.take ids.length).map (HE.rn (mQ ids H.length)))++(H0.drop ids.length).map (HE.rn (mQ ids H.length))
theorem uF:∀ (ids:List Nat) (es H:List HE),(kj H ids es).length=H.length
 |[],_,_=>by simp[kj]
 |id::ids,[],H=>by simp[kj]
 |id::ids,e::es,H=>by rw[kj,uF];simp
theorem rj:∀ (ids:List Nat) (es H:List HE) (j:Nat),j∉ids→(kj H ids es)[j]?=H[j]?
 |[],_,_,_,_=>by simp[kj]
 |id::ids,[],H,j,_=>by simp[kj]
 |id::ids,e::es,H,j,h=>by
  simp only[abq,not_or] at h
  rw[kj,rj ids es _ j h.2,abR (acN h.1)]
theorem CI:∀ (ids:List Nat) (es H:List HE) (i j:Nat),distinct ids=true→es.length=ids.length→ids[i]?=some j→j<H.length→(kj H ids es)[j]?=es[i]?
 |[],_,_,i,_,_,_,h,_=>by simp at h
 |id::ids,[],H,i,_,_,hl,_,_=>by simp at hl
 |id::ids,e::es,H,0,j,hd,hl,h,hj=>by
  simp at h;subst h
  simp only[distinct,aaT,abC] at hd
  have ON:id∉ids:=fun hm=>by have:=(tq (l:=ids)).2 hm;rw[this] at hd;simp at hd
  rw[kj,rj ids es _ id ON,acg hj];rfl
 |id::ids,e::es,H,i+1,j,hd,hl,h,hj=>by
  simp only[distinct,aaT] at hd
  rw[kj,CI ids es _ i j hd.2 (by simpa using hl) (by simpa using h) (by simpa using hj)];simp
theorem Hj{H:List HE}{ids:List Nat}{H0:List HE}(hd:distinct ids=true)(hN:∀ x∈ids,x<H.length)(hk:ids.length≤H0.length)(j:Nat):
  (uO H ids H0)[j]?=match loc ids H.length j with|some i=>(H0[i]?).map (HE.rn (mQ ids H.length))|none=>H[j]?:=by
 have hlen:(kj H ids ((H0.take ids.length).map (HE.rn (mQ ids H.length)))).length=H.length:=uF _ _ _
 unfold uO
 by_cases hj:j<H.length
 ·rw[aa1 (by omega)]
  cases hl:loc ids H.length j with
  |none=>
   exact rj _ _ _ j (L3 hl).1
  |some i=>
   have hg:=sq hN hl
   have hi:i<ids.length:=by
    rcases ab8 i ids.length with h|h
    ·exact h
    ·have:ids[i]?=none:=abv h
     simp only[mQ,this] at hg;omega
   have AJ:ids[i]?=some j:=by
    have:ids[i]?=some ids[i]:=aaV hi
    simp only[mQ,this] at hg
    rw[this,hg]
   rw[CI _ _ _ i j hd (by simp;omega) AJ hj,aba,abj,aa2 hi]
 ·rw[aaY (by omega),hlen,aba,abn]
  have hl:loc ids H.length j=some (j-H.length+ids.length):=by
   unfold loc
   split
   ·rename_i i' h1
    obtain⟨_,h2⟩:=qD h1
    have:=hN j (abc h2);omega
   ·exact au
  exact au
theorem aJ.frame{P:Program}{f:FuncId}{oS:List V}{H0 H:List HE}{R0:V→List HE→Prop}(ids:List Nat)(h:aJ P f oS H0 R0)(hk:ids.length=H0.length)(hd:distinct ids=true)
  (IK:∀ (i:Nat) e,H0[i]?=some e→∃ id,ids[i]?=some id∧H[id]?=some (e.rn (mQ ids H.length)))(pV:H0.all HE.simple=true)(JW:oS.all V.simple=true)
  (hR:∀ r H',R0 r H'→r.simple=true∧H'.all HE.simple=true∧ids.length≤H'.length):
  aJ P f (oS.map (V.rn (mQ ids H.length))) H fun r H'=>∃ r0 Xv,R0 r0 Xv∧r=r0.rn (mQ ids H.length)∧H'=uO H ids Xv:=by
 intro g w vals hw hs hv
 have hN:∀ x∈ids,x<H.length:=by
  intro x hx
  obtain⟨i,hi,rfl⟩:=adO.1 hx
  obtain⟨id,h1,h2⟩:=IK i _ (aaV (by omega))
  exact au
 have hgl:∀ i,loc ids H.length (mQ ids H.length i)=some i:=fun i=>L4 hd hN
 have hge:∀ i,ids.length≤i→H.length≤mQ ids H.length i:=fun i hi=>by
  have:ids[i]?=none:=abv hi
  simp[mQ,this]
 have aN:∀ i,i<ids.length→ids[i]?=some (mQ ids H.length i):=fun i hi=>by
  have:ids[i]?=some ids[i]:=aaV hi
  simp[mQ,this]
 let p:=mQ ids H.length
 let g0:G:={σ:=fun i=>g.σ (p i),τ:=fun i=>g.τ (p i),υ:=fun i=>g.υ (p i),X:=fun b=>∃ (i:Nat) (e:HE),H0[i]?=some e∧g.aD (p i) (e.rn p) b,Pr:=g.Pr }
 have hH:∀ (i:Nat) e,H0[i]?=some e→i<ids.length∧H[p i]?=some (e.rn p):=au
 have hblk:∀ (i:Nat) e b,g0.aD i e b→g.aD (p i) (e.rn p) b:=by
  intro i e b hb
  cases e<;>exact hb
 have Yf:∀ i i',p i=p i'→i=i':=fun i i' h=>by
  exact au
 have sb:∀ b,g0.X b→g.X b:=by
  rintro b ⟨i,e,h1,h2⟩
  exact hw.aD _ _ b (hH i e h1).2 h2
 have Vc:∀ (i:Nat) c,H0[i]?=some (.row c)→c.all V.simple=true:=fun i c hc=>abi.1 pV _ (abc hc)
 have Sy:∀ {v:V} {r:Value},v.simple=true→cu g w (v.rn p) r→cu g0 w v r:=fun hv hr=>(L2 (g:=g0) (g':=g) (p:=p) (fun _=>rfl) (fun _=>rfl) rfl hv).2 hr
 have bR:aQ g0 w H0:=by
  refine⟨hw.pr,fun b hb=>hw.xs b (sb b hb),?_,?_,?_,?_,?_,?_,?_,fun x hx=>⟨fun h=>(hw.kc x hx).1 (sb _ h),(hw.kc x hx).2⟩⟩
  ·exact au
  ·intro i i' e e' b he qj hb dD
   exact Yf _ _ (hw.sep _ _ _ _ b (hH i e he).2 (hH i' e' qj).2 (hblk i e b hb) (hblk i' e' b dD))
  ·intro i c hc
   obtain⟨b,arr,et,k1,k2,k3,k4,k5⟩:=hw.row _ _ (hH i _ hc).2
   exact au
  ·intro i n e s hc
   exact hw.tok _ n e s (hH i _ hc).2
  ·intro i l e s hc
   exact hw.bn _ l e s (hH i _ hc).2
  ·intro i x hc
   obtain⟨b,q1,q2,q3,q4⟩:=hw.ob _ x (hH i _ hc).2
   have tr:x.fr=true:=abi.1 pV _ (abc hc)
   exact⟨b,q1,x.JV tr (g:=g) (g':=g0) rfl rfl rfl q2,q3,q4⟩
  ·intro i hi
   refine hw.free _ ?_
   rcases hi with hi|hi
   ·exact .inl (hH i _ hi).2
   ·exact au
 have L5:∀ (i:Nat) x v,oS[i]?=some x→vals[i]?=some v→cu g0 w x v:=fun i x v hx rf=>
  Sy (abi.1 JW x (abc hx)) (hv i _ v (by simp[hx];rfl) rf)
 refine(h g0 w vals bR (by simpa using hs) L5).mono ?_
 rintro e w' ⟨rv,r,g',H',rfl,lN,he,hr,hRr⟩
 obtain⟨Rp,hHs,xA⟩:=hR r H' hRr
 let L:=loc ids H.length
 let g2:G:={σ:=fun j=>match L j with|some i=>g'.σ i|none=>g.σ j,τ:=fun j=>match L j with|some i=>g'.τ i|none=>g.τ j,υ:=fun j=>match L j with|some i=>g'.υ i|none=>g.υ j,X:=fun b=>g.X b∨g'.X b,Pr:=g'.Pr }
 have ax:=Hj (H:=H) (H0:=H') hd hN xA
 have UC:∀ b,g'.X b→g0.X b∨w.heap.size≤b:=he.x
 have aY:∀ b,b<w.heap.size→¬g0.X b→w'.heap[b]?=w.heap[b]?:=he.aY
 have hold:∀ b o,g'.Pr b o→b<w.heap.size→¬g0.X b→g.Pr b o:=by
  intro b o hp hb hx
  rcases he.pK b o hp with h1|h1|h1
  ·exact h1
  ·exact(hx h1).elim
  ·omega
 have Pq:∀ i,g2.σ (p i)=g'.σ i:=fun i=>by simp only[g2,L,p,hgl i]
 have Ps:∀ i,g2.τ (p i)=g'.τ i:=fun i=>by simp only[g2,L,p,hgl i]
 have Vd:∀ {v:V} {r:Value},v.simple=true→cu g' w' v r→cu g2 w' (v.rn p) r:=fun hv hr=>(L2 (g:=g') (g':=g2) (p:=p) Pq Ps rfl hv).1 hr
 have bK:cG g w g2 w':={
  same:=he.same
  size:=he.size
  pr:=he.pr
  pK:=fun b o hp=>by
   exact au
  x:=fun b hb=>by
   exact au
  aY:=fun b hb hx=>aY b hb (fun h0=>hx (sb b h0))
  σ:=fun j b hb=>by
   show(match L j with|some i=>g'.σ i|none=>g.σ j)=some b
   cases hl:L j with
   |none=>exact hb
   |some i=>
    have hj:p i=j:=sq hN hl
    exact he.σ i b (by show g.σ (p i)=some b;rw[hj];exact hb)
  τ:=fun j m a cap ht=>by
   show ∃ m' a' eZ,(match L j with|some i=>g'.τ i|none=>g.τ j)=some (m',a',eZ)∧_
   cases hl:L j with
   |none=>exact⟨m,a,cap,ht,.inr ⟨rfl,rfl,rfl⟩⟩
   |some i=>
    have hj:p i=j:=sq hN hl
    exact he.τ i m a cap (by show g.τ (p i)=_;rw[hj];exact ht)}
 have fq:∀ (j:Nat) e,(uO H ids H')[j]?=some e→(∃ i e0,L j=some i∧p i=j∧H'[i]?=some e0∧e=e0.rn p)∨(L j=none∧H[j]?=some e):=by
  intro j e hj
  rw[ax j] at hj
  cases hl:L j with
  |none=>rw[show loc ids H.length j=none from hl] at hj;exact .inr ⟨rfl,hj⟩
  |some i=>
   rw[show loc ids H.length j=some i from hl] at hj
   simp only[aa6] at hj
   obtain⟨e0,h1,h2⟩:=hj
   exact .inl ⟨i,e0,rfl,sq hN hl,h1,h2.symm⟩
 have Hk:∀ (j i:Nat) e0 b,L j=some i→g2.aD j (HE.rn p e0) b→g'.aD i e0 b:=by
  intro j i e0 b hl hb
  cases e0<;>simp only[HE.rn,G.aD,g2,hl] at hb ⊢<;>exact hb
 have DM:∀ (j:Nat) e b,L j=none→g2.aD j e b→g.aD j e b:=by
  intro j e b hl hb
  cases e<;>simp only[G.aD,g2,hl] at hb ⊢<;>exact hb
 have DN:∀ (j:Nat) e b,L j=none→H[j]?=some e→g.aD j e b→b<w.heap.size∧¬g0.X b:=by
  intro j e b hl qj hb
  refine⟨hw.xs b (hw.aD j e b qj hb),?_⟩
  rintro⟨i,e0,h1,h2⟩
  obtain⟨hi,h3⟩:=hH i e0 h1
  have:=hw.sep _ _ _ _ b h3 qj h2 hb
  exact au
 refine⟨rv,r.rn p,g2,uO H ids H',rfl,⟨lN.pr,?_,?_,?_,?_,?_,?_,?_,?_,hw.Ca bK⟩,bK,Vd Rp hr,r,H',hRr,rfl,rfl⟩
 ·rintro b (hb|hb)
  ·exact aa_ (hw.xs b hb) he.size
  ·exact lN.xs b hb
 ·intro j e b hj hb
  rcases fq j e hj with ⟨i,e0,hl,hp,h1,rfl⟩|⟨hl,h1⟩
  ·exact .inr (lN.aD i e0 b h1 (Hk j i e0 b hl hb))
  ·exact .inl (hw.aD j e b h1 (DM j e b hl hb))
 ·intro j j' e e' b hj ph hb dD
  have mix:∀ (i:Nat) e0 (j':Nat) e',H'[i]?=some e0→g'.aD i e0 b→L j'=none→H[j']?=some e'→g.aD j' e' b→False:=by
   intro i e0 j' e' h1 h2 hl h3 h4
   obtain⟨f1,f2⟩:=DN j' e' b hl h3 h4
   rcases UC b (lN.aD i e0 b h1 h2) with h5|h5
   ·exact f2 h5
   ·omega
  rcases fq j e hj with ⟨i,e0,hl,hp,h1,rfl⟩|⟨hl,h1⟩<;>rcases fq j' e' ph with ⟨i',e0',vQ,U4,Kb,rfl⟩|⟨vQ,Kb⟩
  ·have:=lN.sep i i' e0 e0' b h1 Kb (Hk j i e0 b hl hb) (Hk j' i' e0' b vQ dD)
   exact au
  ·exact au
  ·exact au
  ·exact hw.sep j j' e e' b h1 Kb (DM j e b hl hb) (DM j' e' b vQ dD)
 ·intro j c hj
  rcases fq j _ hj with ⟨i,e0,hl,hp,h1,h2⟩|⟨hl,h1⟩
  ·cases e0 with
   |row c0=>
    simp only[HE.rn,HE.row.injEq] at h2
    subst h2
    obtain⟨b,arr,et,k1,k2,k3,k4,k5⟩:=lN.row i c0 h1
    refine⟨b,arr,et,by rw[←hp,Pq];exact k1,k2,by simpa using k3,fun k x v hx hv=>?_,k5⟩
    simp only[aba,aa6] at hx
    obtain⟨y,hy,rfl⟩:=hx
    have:=abi.1 hHs _ (abc h1)
    exact Vd (abi.1 this y (abc hy)) (k4 k y v hy hv)
   |_=>cases h2
  ·obtain⟨b,arr,et,k1,k2,k3,k4,k5⟩:=hw.row j c h1
   obtain⟨f1,f2⟩:=DN j _ b hl h1 k1
   refine⟨b,arr,et,by show(match L j with|some i=>g'.σ i|none=>g.σ j)=some b;rw[hl];exact k1,(aY b f1 f2).trans k2,k3,fun k x v hx hv=>(k4 k x v hx hv).mono bK,fun o hp=>k5 o (hold b o hp f1 f2)⟩
 ·intro j n e s hj
  rcases fq j _ hj with ⟨i,e0,hl,hp,h1,h2⟩|⟨hl,h1⟩
  ·cases e0 with
   |tok n0 e0 s0=>
    simp only[HE.rn] at h2
    injection h2 with q1 q2 q3;subst q1;subst q2;subst q3
    obtain⟨a,cap,k1,k2⟩:=lN.tok i n e s h1
    exact⟨a,cap,by rw[←hp,Ps];exact k1,k2⟩
   |_=>cases h2
  ·obtain⟨a,cap,k1,k2,k3,k4⟩:=hw.tok j n e s h1
   refine⟨a,cap,by show(match L j with|some i=>g'.τ i|none=>g.τ j)=_;rw[hl];exact k1,k2,k3,fun hc=>?_⟩
   obtain⟨b,arr,q1,q2,q3,q4⟩:=k4 hc
   obtain⟨f1,f2⟩:=DN j _ b hl h1 (by simp[G.aD,k1,hc,q1])
   exact⟨b,arr,q1,(aY b f1 f2).trans q2,q3,fun o hp=>q4 o (hold b o hp f1 f2)⟩
 ·intro j l e s hj
  rcases fq j _ hj with ⟨i,e0,hl,hp,h1,h2⟩|⟨hl,h1⟩
  ·cases e0 with
   |bn l0 e0 s0=>
    simp only[HE.rn] at h2
    injection h2 with q1 q2 q3;subst q1;subst q2;subst q3
    obtain⟨a,cap,k1,k2,k3,k4⟩:=lN.bn i l e s h1
    refine⟨a,cap,by rw[←hp,Ps];exact k1,k2,k3,fun hc=>?_⟩
    obtain⟨b,arr,q1,q0,q2⟩:=k4 hc
    exact⟨b,arr,q1,by rw[←hp,Pq];exact q0,q2⟩
   |_=>cases h2
  ·obtain⟨a,cap,k1,k2,k3,k4⟩:=hw.bn j l e s h1
   refine⟨a,cap,by show(match L j with|some i=>g'.τ i|none=>g.τ j)=_;rw[hl];exact k1,k2,k3,fun hc=>?_⟩
   obtain⟨b,arr,q1,q0,q2,q3,q4,q5⟩:=k4 hc
   obtain⟨f1,f2⟩:=DN j _ b hl h1 (by simp[G.aD,k1,hc,q1])
   exact⟨b,arr,q1,by show(match L j with|some i=>g'.σ i|none=>g.σ j)=some b;rw[hl];exact q0,(aY b f1 f2).trans q2,q3,fun o hp=>q4 o (hold b o hp f1 f2),fun k x v hx hv=>(q5 k x v hx hv).mono bK.pr⟩
 ·intro j x hj
  rcases fq j _ hj with ⟨i,e0,hl,hp,h1,h2⟩|⟨hl,h1⟩
  ·cases e0 with
   |ob y=>
    simp only[HE.rn] at h2
    injection h2 with h2;subst h2
    obtain⟨b,k1,k2,k3,k4⟩:=lN.ob i _ h1
    have tr:x.fr=true:=abi.1 hHs _ (abc h1)
    have Pt:g2.υ j=g'.υ i:=au
    exact⟨b,by rw[←hp,Pq];exact k1,x.JV tr (g:=g') (g':=g2) rfl (by rw[←hp,Ps]) Pt k2,k3,fun b' o hu U4=>k4 b' o (by rwa[Pt] at hu) U4⟩
   |_=>cases h2
  ·obtain⟨b,k1,k2,k3,k4⟩:=hw.ob j x h1
   obtain⟨f1,f2⟩:=DN j _ b hl h1 (.inl k1)
   have Pt:g2.υ j=g.υ j:=au
   have Xw:∀ b',g.υ j b'→b'<w.heap.size∧¬g0.X b':=fun b' hu=>DN j _ b' hl h1 (.inr hu)
   exact⟨b,by show(match L j with|some i=>g'.σ i|none=>g.σ j)=some b;rw[hl];exact k1,x.st bK.w (by show(match L j with|some i=>g'.τ i|none=>g.τ j)=g.τ j;rw[hl]) Pt (aY b f1 f2) (fun b' hu=>aY b' (Xw b' hu).1 (Xw b' hu).2) k2,fun o hp=>k3 o (hold b o hp f1 f2),fun b' o hu hp=>by
    rw[Pt] at hu
    exact k4 b' o hu (hold b' o hp (Xw b' hu).1 (Xw b' hu).2)⟩
 ·intro j hj
  cases hl:L j with
  |none=>
   have h1:g2.σ j=g.σ j∧g2.τ j=g.τ j:=au
   have Pt:g2.υ j=g.υ j:=au
   rw[h1.1,h1.2,Pt]
   refine hw.free j ?_
   rcases hj with hj|hj
   ·exact au
   ·exact au
  |some i=>
   have hp:p i=j:=sq hN hl
   have h1:g2.σ j=g'.σ i∧g2.τ j=g'.τ i:=au
   have Pt:g2.υ j=g'.υ i:=au
   rw[h1.1,h1.2,Pt]
   refine lN.free i ?_
   rcases hj with hj|hj
   ·rcases fq j _ hj with ⟨i',e0,vQ,_,h2,h3⟩|⟨vQ,_⟩
    ·rw[hl] at vQ;injection vQ with vQ;subst vQ
     cases e0<;>simp only[HE.rn] at h3<;>first|exact .inl h2|cases h3
    ·exact au
   ·exact au
end Go.Proofs.YtjdnbobilgamdaaGreatDoor.Ab
end
section
namespace Go.Proofs.YtjdnbobilgamdaaGreatDoor.Ab
open Go
def Yg(P:Program)(rs:List ResultVar)(n0:Nat)(Px:List V)(H1:List HE):Exit→St→Prop
 |.normal,st|.ret,st=>∃ vs S,rk P st rs vs∧vY n0 S=true∧distinct S=true∧uN S vs Px∧kC S st.H S H1
 |_,_=>False
theorem CJ{vs:List V}(h:vs.length≠1):kF vs=.gd vs:=by
 match vs,h with
 |[],_=>rfl
 |[_],h=>exact absurd rfl h
 |_::_::_,_=>rfl
theorem Kc{g:G}{w:World}{S:List Nat}{vs Px:List V}(h:uN S vs Px){r:Value}(hr:cu g w (kF vs) r):cu (g.pM S) w (kF Px) r:=by
 obtain⟨hl,hg⟩:=h.get
 by_cases h1:vs.length=1
 ·obtain⟨v,rfl⟩:=aef.1 h1
  obtain⟨u,rfl⟩:=aef.1 (hl▸h1)
  obtain⟨y,hy,hle⟩:=hg 0 u rfl
  simp at hy;subst hy
  exact hle.rep hr
 ·rw[CJ h1] at hr
  rw[CJ (by omega)]
  cases hr with
  |gd h1 h2=>
   refine .gd (by omega) (fun i x v hx hv=>?_)
   obtain⟨y,hy,hle⟩:=hg i x hx
   exact hle.rep (h2 i y v hy hv)
theorem aJ.rl{P:Program}{f:FuncId}{fnn:Func}{c:Code}{args:List V}{H H1:List HE}{Px:List V}(hf:P.funcs[f]?=some fnn)(hb:fnn.body=some c)(hn:args.length≤fnn.ntmps)
  (h:∀ g0 w0,aQ g0 w0 H→AW ⟨P,fnn.ntmps,g0,w0⟩ c (Yg P fnn.results.toList H.length Px H1) ⟨rT args,H⟩):aJ P f args H fun r H'=>r=kF Px∧H'=H1:=by
 intro g w vals hw hs ha
 refine calls_of_wp hf hb (aea (h g w hw {tmps:=vals++Array.replicate (fnn.ntmps-vals.size) undef,defers:=[] } w ⟨rfl,by simp;omega,g,hw,.refl _ _,fun i=>?_⟩) ?_)
 ·by_cases hi:i<args.length
  ·have:=tu (args:=args) (vals:=vals.toList) (by simpa using hs.symm) (fun i x v hx hv=>ha i x v hx (by simpa[aa0] using hv)) i
   have e:(vals++Array.replicate (fnn.ntmps-vals.size) undef).getD i undef=vals.toList.getD i undef:=by
    simp[abB,ab4 (show i<vals.size by omega)]
   rw[e];exact this
  ·show cu g w (rT args i) _
   rw[tv (by omega)];exact .any
 ·rintro e a' w' ⟨mH,⟨h1,h2,g',h3,h4,h5⟩,hq⟩
  have fin:(∃ vs S,rk P mH fnn.results.toList vs∧vY H.length S=true∧distinct S=true∧uN S vs Px∧kC S mH.H S H1)→
    ∃ v,(results fnn a'.tmps).run P w'=.ok v w'∧∃ rv res IE H',Ending.returned v=.returned rv∧aQ IE w' H'∧cG g w IE w'∧cu IE w' res rv∧(res=kF Px∧H'=H1):=by
   rintro⟨vs,S,hr,k1,k2,k3,k4⟩
   obtain⟨r,e1,e2⟩:=sr (fnn:=fnn) h3 h5 hr
   refine⟨r,e1,r,_,g'.pM S,_,rfl,h3.pM k4 k2,?_,Kc k3 e2,rfl,rfl⟩
   refine⟨h4.same,h4.size,h4.pr,h4.pK,h4.x,h4.aY,fun id b hb=>?_,fun id m a cap ht=>?_⟩
   ·have aN:id<H.length:=by
     rcases ab8 id H.length with h|h
     ·exact h
     ·rw[(hw.free id (.inr h)).1] at hb;cases hb
    simp[G.pM,qA k1 aN,h4.σ id b hb]
   ·have aN:id<H.length:=by
     rcases ab8 id H.length with h|h
     ·exact h
     ·rw[(hw.free id (.inr h)).2.1] at ht;cases ht
    simpa[G.pM,qA k1 aN] using h4.τ id m a cap ht
  cases e with
  |normal=>exact⟨h1,fin hq⟩
  |ret=>exact⟨h1,fin hq⟩
  |exit id=>exact hq.elim
  |goto l=>exact hq.elim
  |panic c=>exact hq.elim
  |outgrown=>exact hq.elim
inductive SD(H:List HE)(p:Nat→Nat):List Nat→List HE→Prop
 |nil:SD H p [] []
 |cons {id:Nat} {e:HE} {ids:List Nat} {H0:List HE}:H[id]?=some (e.rn p)→SD H p ids H0→SD H p (id::ids) (e::H0)
theorem SD.get{H:List HE}{p:Nat→Nat}{ids:List Nat}{H0:List HE}(h:SD H p ids H0):ids.length=H0.length∧∀ (i:Nat) e,H0[i]?=some e→∃ id,ids[i]?=some id∧H[id]?=some (e.rn p):=by
 induction h with
 |nil=>simp
 |cons h1 _ ih=>
  refine⟨by simp[ih.1],fun i e he=>?_⟩
  cases i with
  |zero=>simp only[aa',aaW] at he;subst he;exact⟨_,rfl,h1⟩
  |succ i=>exact ih.2 i e (by simpa using he)
section
variable {P:Program}{ρ:Operand→V}{H:List HE}{ty:TypeId}
theorem lQ{wh:Operand}{f:FuncId}{args:Array Operand}{ts:Array TypeId}{oS vs lK:List V}{H0 H1 H':List HE}{r0 v:V}(ids:List Nat)(hc:∀ (a:Array Value) (w:World),(callFunc f a).run P w=.ok (.enter f a) w)
  (hf:Is (ρ wh) (.fn (.func f) lK))(ha:wo ρ args.toList vs)(h:aJ P f oS H0 fun r H'=>r=r0∧H'=H1)(yL:vs++lK=oS.map (V.rn (mQ ids H.length)))(IK:SD H (mQ ids H.length) ids H0)(hd:distinct ids=true)
  (pV:H0.all HE.simple=true)(JW:oS.all V.simple=true)(L9:r0.simple=true)(Vb:H1.all HE.simple=true)(xA:Nat.ble ids.length H1.length=true)(hv:r0.rn (mQ ids H.length)=v)(hm:uO H ids H1=H'):
  bj P (.call ⟨.value wh,args,ts⟩) ty ρ H v H':=by
 subst hv;subst hm
 refine bZ hc hf ha ?_
 rw[yL]
 refine(h.frame ids IK.get.1 hd IK.get.2 pV JW (fun r H' ⟨h1,h2⟩=>by subst h1;subst h2;exact⟨L9,Vb,aaR xA⟩)).mono ?_
 rintro r H' ⟨r0',Xv,⟨rfl,rfl⟩,h3,h4⟩
 exact⟨h3,h4⟩
theorem aQ.DL{g:G}{w:World}{s:Nat}{e:TypeId}{ad:Option Addr}(hw:aQ g w H):
  ∃ g',aQ g' w (H++[.bn [] e s])∧cG g w g' w∧g'.τ H.length=some (0,ad,0):=by
 obtain⟨G9,DF,J8⟩:=hw.free H.length (.inr (aaZ _))
 let g':G:={σ:=g.σ,τ:=fun i=>if i=H.length then some (0,ad,0) else g.τ i,υ:=g.υ,X:=g.X,Pr:=g.Pr }
 have gN:∀ i,i≠H.length→g'.τ i=g.τ i:=fun i h=>by simp[g',h]
 have mw:g'.τ H.length=some (0,ad,0):=by simp[g']
 have bK:cG g w g' w:={
  same:=⟨rfl,rfl,rfl⟩
  size:=aaZ _
  pr:=fun b o hp=>⟨hp,rfl⟩
  pK:=fun b o h=>.inl h
  x:=fun b h=>.inl h
  aY:=fun b _ _=>rfl
  σ:=fun i b h=>h
  τ:=fun i m a c h=>by
   have:i≠H.length:=fun e=>by subst e;rw[DF] at h;cases h
   exact⟨m,a,c,by rw[gN i this];exact h,.inr ⟨rfl,rfl,rfl⟩⟩}
 have ax:∀ (i:Nat) x,(H++[HE.bn [] e s])[i]?=some x→(i=H.length∧x=.bn [] e s)∨(i≠H.length∧H[i]?=some x):=by
  intro i x hx
  by_cases hi:i<H.length
  ·rw[aa1 hi] at hx;exact .inr ⟨by omega,hx⟩
  ·rw[aaY (by omega)] at hx
   have:i-H.length=0:=by
    by_cases h0:i-H.length=0
    ·exact h0
    ·rw[abv (by simp;omega)] at hx;cases hx
   rw[this] at hx
   exact .inl ⟨by omega,by simpa using hx.symm⟩
 have hblk:∀ (i:Nat) x b,(H++[HE.bn [] e s])[i]?=some x→g'.aD i x b→H[i]?=some x∧g.aD i x b:=by
  intro i x b hx hb
  rcases ax i x hx with ⟨rfl,rfl⟩|⟨hi,h⟩
  ·simp[G.aD,mw] at hb
  ·refine⟨h,?_⟩
   cases x<;>simp only[G.aD,gN i hi] at hb ⊢<;>exact hb
 refine⟨g',⟨hw.pr,hw.xs,?_,?_,?_,?_,?_,?_,?_,hw.kc⟩,bK,mw⟩
 ·intro i x b hx hb
  obtain⟨k1,k2⟩:=hblk i x b hx hb
  exact hw.aD i x b k1 k2
 ·intro i i' x x' b hx kB hb dD
  obtain⟨k1,k2⟩:=hblk i x b hx hb
  obtain⟨k3,k4⟩:=hblk i' x' b kB dD
  exact hw.sep i i' x x' b k1 k3 k2 k4
 ·intro i c hx
  rcases ax i _ hx with ⟨_,h⟩|⟨hi,h⟩
  ·cases h
  ·obtain⟨b1,dx,sj,k1,k2,k3,k4,k5⟩:=hw.row i c h
   exact⟨b1,dx,sj,k1,k2,k3,fun k x v hx hv=>(k4 k x v hx hv).mono bK,k5⟩
 ·intro i m e1 s1 hx
  rcases ax i _ hx with ⟨_,h⟩|⟨hi,h⟩
  ·cases h
  ·obtain⟨a,cap,k1,k2⟩:=hw.tok i m e1 s1 h
   exact⟨a,cap,by rw[gN i hi];exact k1,k2⟩
 ·intro i l1 e1 s1 hx
  rcases ax i _ hx with ⟨rfl,h⟩|⟨hi,h⟩
  ·injection h with q1 q2 q3
   subst q1;subst q2;subst q3
   exact⟨ad,0,mw,by simp,by omega,fun h=>by omega⟩
  ·obtain⟨a,cap,k1,k2⟩:=hw.bn i l1 e1 s1 h
   exact⟨a,cap,by rw[gN i hi];exact k1,k2⟩
 ·intro i x hx
  rcases ax i _ hx with ⟨_,h⟩|⟨hi,h⟩
  ·cases h
  ·obtain⟨b1,k1,k2,k3,k4⟩:=hw.ob i x h
   exact⟨b1,k1,x.st bK.w (gN i hi) rfl rfl (fun _ _=>rfl) k2,k3,k4⟩
 ·intro i hi
  have aR:i≠H.length∧(H[i]?=some .free∨H.length≤i):=by
   rcases hi with hi|hi
   ·rcases ax i _ hi with ⟨_,h⟩|⟨h1,h⟩
    ·cases h
    ·exact⟨h1,.inl h⟩
   ·simp at hi;exact⟨by omega,.inr (by omega)⟩
  rw[gN i aR.1]
  exact hw.free i aR.2
end
end Go.Proofs.YtjdnbobilgamdaaGreatDoor.Ab
end
section
namespace Go.Proofs.YtjdnbobilgamdaaGreatDoor.Ab
open Go
end Go.Proofs.YtjdnbobilgamdaaGreatDoor.Ab
end
