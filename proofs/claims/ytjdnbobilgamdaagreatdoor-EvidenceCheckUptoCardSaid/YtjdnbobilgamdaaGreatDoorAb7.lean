/- Growing lists: append; and the entry of a function and its results. Entering and leaving a function, loops and meeting ways over listed slots, lists that are handed out to grow on. Conditions: none. -/
import Derived.Test.YtjdnbobilgamdaaGreatDoorAb5
section
namespace Go.Proofs.YtjdnbobilgamdaaGreatDoor.Ab
open Go
section
variable {P:Program}{ρ:Operand→V}{H:List HE}{ty:TypeId}
theorem aQ.S1{g:G}{w w':World}{id n cap s:Nat}{e:TypeId}{e0:HE}{arr:Array Value}(hw:aQ g w H)(hH:H[id]?=some e0)(UI:e0=.free∨∃ m,e0=.tok m e s∧m<n)
  (n4:w'.os=w.os∧w'.tape=w.tape∧w'.output=w.output)(hh:w'.heap=w.heap.push (.cells arr e (0,0)))(jj:arr.size=cap*s)(hnc:n≤cap)(ji:cap≤9223372036854775807):
  ∃ g',aQ g' w' (H.set id (.tok n e s))∧cG g w g' w'∧g'.τ id=some (n,some ⟨w.heap.size,0,none⟩,cap)∧(∀ o,o<n*s→g'.Pr w.heap.size o)∧w'.heap[w.heap.size]?=some (.cells arr e (0,0)):=by
 have eC:id<H.length:=(aaS.1 hH).1
 let B:=w.heap.size
 let g':G:={σ:=g.σ,τ:=fun i=>if i=id then some (n,some ⟨B,0,none⟩,cap) else g.τ i,υ:=g.υ,X:=fun b=>g.X b∨b=B,Pr:=fun b o=>g.Pr b o∨(b=B∧o<n*s)}
 have hold:∀ b,b<B→w'.heap[b]?=w.heap[b]?:=fun b hb=>by
  exact au
 have qk:w'.heap[B]?=some (.cells arr e (0,0)):=au
 have dE:w'.heap.size=B+1:=au
 have gN:∀ i,i≠id→g'.τ i=g.τ i:=fun i h=>by simp[g',h]
 have mw:g'.τ id=some (n,some ⟨B,0,none⟩,cap):=by simp[g']
 have YI:∀ m a c,g.τ id=some (m,a,c)→m<n:=fun m a c h=>by
  rcases UI with rfl|⟨m',rfl,aN⟩
  ·have:=(hw.free id (.inl hH)).2.1;rw[this] at h;cases h
  ·obtain⟨a',c',h1,_⟩:=hw.tok id m' e s hH
   exact au
 have bK:cG g w g' w':={
  same:=n4
  size:=by omega
  pr:=fun b o hp=>⟨.inl hp,by have:=hw.pr b o hp;simp[World.cell?,hold b this]⟩
  pK:=fun b o h=>by
   exact au
  x:=fun b h=>h.imp (fun h=>h) (fun e=>by omega)
  aY:=fun b hb _=>hold b hb
  σ:=fun i b h=>h
  τ:=fun i m a c h=>by
   by_cases hi:i=id
   ·exact au
   ·exact⟨m,a,c,by rw[gN i hi];exact h,.inr ⟨rfl,rfl,rfl⟩⟩}
 have ax:∀ (i:Nat) x,(H.set id (.tok n e s))[i]?=some x→(i=id∧x=.tok n e s)∨(i≠id∧H[i]?=some x):=au
 have hblk:∀ (i:Nat) x b',(H.set id (.tok n e s))[i]?=some x→g'.aD i x b'→(i=id∧b'=B)∨(i≠id∧H[i]?=some x∧g.aD i x b'∧b'<B):=by
  intro i x b' he dD
  rcases ax i x he with ⟨rfl,rfl⟩|⟨aR,h⟩
  ·simp only[G.aD,mw,aaQ] at dD
   exact au
  ·have:g.aD i x b':=by
    cases x with
    |tok m e1 s1=>simp only[G.aD,gN i aR] at dD ⊢;exact dD
    |row c=>exact dD
    |free=>exact dD
    |dead=>exact dD
    |bn l1 e1 s1=>simp only[G.aD,gN i aR] at dD ⊢;exact dD
    |ob=>exact dD
   exact .inr ⟨aR,h,this,hw.xs b' (hw.aD i x b' h this)⟩
 refine⟨g',⟨?_,?_,?_,?_,?_,?_,?_,?_,?_,hw.Ca bK⟩,bK,mw,fun o ho=>.inr ⟨rfl,ho⟩,qk⟩
 ·intro b o h
  rcases h with h|⟨rfl,_⟩
  ·have:=hw.pr b o h;omega
  ·omega
 ·intro b h
  rcases h with h|rfl
  ·have:=hw.xs b h;omega
  ·omega
 ·intro i x b' he dD
  rcases hblk i x b' he dD with ⟨_,rfl⟩|⟨_,h1,h2,_⟩
  ·exact .inr rfl
  ·exact .inl (hw.aD i x b' h1 h2)
 ·intro i i' x x' b' he qj yO xE
  rcases hblk i x b' he yO with ⟨r1,r2⟩|⟨_,h1,h2,h3⟩<;>rcases hblk i' x' b' qj xE with ⟨s1,s2⟩|⟨_,h4,h5,h6⟩
  ·omega
  ·omega
  ·omega
  ·exact hw.sep i i' x x' b' h1 h4 h2 h5
 ·intro i ci hi
  rcases ax i _ hi with ⟨_,he⟩|⟨aR,h⟩
  ·cases he
  ·obtain⟨b1,dx,sj,g1,g2,g3,g4,g5⟩:=hw.row i ci h
   have aN:=hw.xs b1 (hw.aD i _ b1 h (by simpa[G.aD] using g1))
   refine⟨b1,dx,sj,g1,(hold b1 aN).trans g2,g3,fun k x v hx hv=>(g4 k x v hx hv).mono bK,fun o hp=>?_⟩
   exact au
 ·intro i m e1 s1 hi
  rcases ax i _ hi with ⟨rfl,he⟩|⟨aR,h⟩
  ·injection he with h1 h2 h3
   subst h1;subst h2;subst h3
   refine⟨_,cap,mw,hnc,ji,fun _=>⟨B,arr,rfl,qk,jj,fun o hp=>?_⟩⟩
   rcases hp with hp|⟨_,hp⟩
   ·have:=hw.pr B o hp;omega
   ·exact hp
  ·obtain⟨a,c,g1,g2,g3,g4⟩:=hw.tok i m e1 s1 h
   exact au
 ·intro i l e1 s1 hi
  rcases ax i _ hi with ⟨rfl,he⟩|⟨aR,h⟩
  ·cases he
  ·obtain⟨a,c,g1,g2,g3,g4⟩:=hw.bn i l e1 s1 h
   refine⟨a,c,by rw[gN i aR];exact g1,g2,g3,fun aN=>?_⟩
   obtain⟨b1,dx,k1,k0,k2,k3,k4,k5⟩:=g4 aN
   have DG:=hw.xs b1 (hw.aD i _ b1 h (by simp[G.aD,g1,aN,k1]))
   refine⟨b1,dx,k1,k0,(hold b1 DG).trans k2,k3,fun o hp=>?_,fun k x v hx hv=>(k5 k x v hx hv).mono bK.pr⟩
   exact au
 ·intro i x hi
  rcases ax i _ hi with ⟨_,he⟩|⟨aR,h⟩
  ·cases he
  ·obtain⟨b1,q1,q2,q3,q4⟩:=hw.ob i x h
   have aN:=hw.xs b1 (hw.aD i _ b1 h (.inl q1))
   have VG:∀ b',g.υ i b'→b'<w.heap.size:=fun b' hu=>hw.xs b' (hw.aD i _ b' h (.inr hu))
   refine⟨b1,q1,x.st bK.w (gN i aR) rfl (hold b1 aN) (fun b' hu=>hold b' (VG b' hu)) q2,fun o hp=>?_,fun b' o hu hp=>?_⟩
   ·exact au
   ·exact au
 ·intro i hi
  have aR:i≠id:=au
  rw[gN i aR]
  refine hw.free i ?_
  exact au
theorem aQ.VJ{g:G}{w w':World}{id n m cap s b:Nat}{e:TypeId}{arr arr':Array Value}(hw:aQ g w H)(hH:H[id]?=some (.tok n e s))
  (ht:g.τ id=some (n,some ⟨b,0,none⟩,cap))(hb:w.heap[b]?=some (.cells arr e (0,0)))(YJ:n<cap)(n4:w'.os=w.os∧w'.tape=w.tape∧w'.output=w.output)(dE:w'.heap.size=w.heap.size)(hn:w'.heap[b]?=some (.cells arr' e (0,0)))
  (ho:∀ b',b'≠b→w'.heap[b']?=w.heap[b']?)(jj:arr'.size=cap*s)(hmc:n+m≤cap)(hm:0<m)(Mu:∀ k,k<n*s→arr'[k]?=arr[k]?):
  ∃ g',aQ g' w' (H.set id (.tok (n+m) e s))∧cG g w g' w'∧g'.τ id=some (n+m,some ⟨b,0,none⟩,cap)∧(∀ o,o<(n+m)*s→g'.Pr b o):=by
 have eC:id<H.length:=(aaS.1 hH).1
 have hX:g.X b:=hw.aD id _ b hH (by simp[G.aD,ht,YJ])
 obtain⟨a0,sk,f1,f2,f3,f4⟩:=hw.tok id n e s hH
 rw[ht] at f1
 injection f1 with f1;injection f1 with f1 f5;injection f5 with f5 f6
 subst f5;subst f6
 obtain⟨b0,U_,k1,k2,k3,k4⟩:=f4 YJ
 obtain rfl:b=b0:=by injection k1 with k1;injection k1
 let g':G:={σ:=g.σ,τ:=fun i=>if i=id then some (n+m,some ⟨b,0,none⟩,cap) else g.τ i,υ:=g.υ,X:=g.X,Pr:=fun b' o=>g.Pr b' o∨(b'=b∧o<(n+m)*s)}
 have gN:∀ i,i≠id→g'.τ i=g.τ i:=fun i h=>by simp[g',h]
 have mw:g'.τ id=some (n+m,some ⟨b,0,none⟩,cap):=by simp[g']
 have bK:cG g w g' w':={
  same:=n4
  size:=by omega
  pr:=fun b' o hp=>⟨.inl hp,by
   by_cases G7:b'=b
   ·subst G7
    have aN:=k4 o hp
    simp only[World.cell?,hn,hb]
    exact Mu o aN
   ·simp[World.cell?,ho b' G7]⟩
  pK:=fun b' o h=>by
   exact au
  x:=fun b h=>.inl h
  aY:=fun b' _ hx=>ho b' (fun e=>by subst e;exact hx hX)
  σ:=fun i b h=>h
  τ:=fun i m' a c h=>by
   by_cases hi:i=id
   ·exact au
   ·exact⟨m',a,c,by rw[gN i hi];exact h,.inr ⟨rfl,rfl,rfl⟩⟩}
 have ax:∀ (i:Nat) x,(H.set id (.tok (n+m) e s))[i]?=some x→(i=id∧x=.tok (n+m) e s)∨(i≠id∧H[i]?=some x):=au
 have HC:g.aD id (.tok n e s) b:=by simp[G.aD,ht,YJ]
 have hblk:∀ (i:Nat) x b',(H.set id (.tok (n+m) e s))[i]?=some x→g'.aD i x b'→∃ x',H[i]?=some x'∧g.aD i x' b':=by
  intro i x b' he dD
  rcases ax i x he with ⟨rfl,rfl⟩|⟨aR,h⟩
  ·simp only[G.aD,mw,aaQ] at dD
   exact au
  ·refine⟨x,h,?_⟩
   cases x with
   |tok m e1 s1=>simp only[G.aD,gN i aR] at dD ⊢;exact dD
   |row c=>exact dD
   |free=>exact dD
   |dead=>exact dD
   |bn l1 e1 s1=>simp only[G.aD,gN i aR] at dD ⊢;exact dD
   |ob=>exact dD
 have mN:∀ (i:Nat) x b',i≠id→H[i]?=some x→g.aD i x b'→b'≠b:=fun i x b' hi hx hbx hc=>by
  subst hc;exact hi (hw.sep i id _ _ b' hx hH hbx HC)
 refine⟨g',⟨?_,fun b h=>by rw[dE];exact hw.xs b h,?_,?_,?_,?_,?_,?_,?_,hw.Ca bK⟩,bK,mw,fun o ho=>.inr ⟨rfl,ho⟩⟩
 ·intro b' o h
  rw[dE]
  rcases h with h|⟨rfl,_⟩
  ·exact hw.pr b' o h
  ·exact hw.xs _ hX
 ·intro i x b' he dD
  obtain⟨x',h1,h2⟩:=hblk i x b' he dD
  exact hw.aD i x' b' h1 h2
 ·intro i i' x x' b' he qj yO xE
  obtain⟨y,h1,h2⟩:=hblk i x b' he yO
  obtain⟨y',h3,h4⟩:=hblk i' x' b' qj xE
  exact hw.sep i i' y y' b' h1 h3 h2 h4
 ·intro i ci hi
  rcases ax i _ hi with ⟨_,he⟩|⟨aR,h⟩
  ·cases he
  ·obtain⟨b1,dx,sj,g1,g2,g3,g4,g5⟩:=hw.row i ci h
   have Hz:=mN i _ b1 aR h (by simpa[G.aD] using g1)
   refine⟨b1,dx,sj,g1,(ho b1 Hz).trans g2,g3,fun k x v hx hv=>(g4 k x v hx hv).mono bK,fun o hp=>?_⟩
   exact au
 ·intro i m1 e1 s1 hi
  rcases ax i _ hi with ⟨rfl,he⟩|⟨aR,h⟩
  ·exact au
  ·obtain⟨a,c,g1,g2,g3,g4⟩:=hw.tok i m1 e1 s1 h
   refine⟨a,c,by rw[gN i aR];exact g1,g2,g3,fun aN=>?_⟩
   obtain⟨b1,dx,j1,j2,j3,j4⟩:=g4 aN
   have Hz:=mN i _ b1 aR h (by simp[G.aD,g1,aN,j1])
   exact au
 ·intro i l e1 s1 hi
  rcases ax i _ hi with ⟨rfl,he⟩|⟨aR,h⟩
  ·cases he
  ·obtain⟨a,c,g1,g2,g3,g4⟩:=hw.bn i l e1 s1 h
   refine⟨a,c,by rw[gN i aR];exact g1,g2,g3,fun aN=>?_⟩
   obtain⟨b1,dx,j1,j0,j2,j3,j4,j5⟩:=g4 aN
   have Hz:=mN i _ b1 aR h (by simp[G.aD,g1,aN,j1])
   refine⟨b1,dx,j1,j0,(ho b1 Hz).trans j2,j3,fun o hp=>?_,fun k x v hx hv=>(j5 k x v hx hv).mono bK.pr⟩
   exact au
 ·intro i x hi
  rcases ax i _ hi with ⟨_,he⟩|⟨aR,h⟩
  ·cases he
  ·obtain⟨b1,q1,q2,q3,q4⟩:=hw.ob i x h
   have Hz:=mN i _ b1 aR h (.inl q1)
   have Sp:∀ b',g.υ i b'→b'≠b:=fun b' hu=>mN i _ b' aR h (.inr hu)
   refine⟨b1,q1,x.st bK.w (gN i aR) rfl (ho b1 Hz) (fun b' hu=>ho b' (Sp b' hu)) q2,fun o hp=>?_,fun b' o hu hp=>?_⟩
   ·exact au
   ·exact au
 ·intro i hi
  have aR:i≠id:=au
  rw[gN i aR]
  refine hw.free i ?_
  exact au
theorem aQ.zR{g:G}{w:World}{id n s:Nat}{e:TypeId}{a:Option Addr}(hw:aQ g w H)(hH:H[id]?=some .free)(hn:n≤9223372036854775807):
  ∃ g',aQ g' w (H.set id (.tok n e s))∧cG g w g' w∧g'.τ id=some (n,a,n):=by
 have eC:id<H.length:=(aaS.1 hH).1
 let g':G:={σ:=g.σ,τ:=fun i=>if i=id then some (n,a,n) else g.τ i,υ:=g.υ,X:=g.X,Pr:=g.Pr }
 have gN:∀ i,i≠id→g'.τ i=g.τ i:=fun i h=>by simp[g',h]
 have mw:g'.τ id=some (n,a,n):=by simp[g']
 have bK:cG g w g' w:={
  same:=⟨rfl,rfl,rfl⟩
  size:=aaZ _
  pr:=fun b o hp=>⟨hp,rfl⟩
  pK:=fun b o h=>.inl h
  x:=fun b h=>.inl h
  aY:=fun b _ _=>rfl
  σ:=fun i b h=>h
  τ:=fun i m a c h=>by
   by_cases hi:i=id
   ·subst hi;have:=(hw.free i (.inl hH)).2.1;rw[this] at h;cases h
   ·exact⟨m,a,c,by rw[gN i hi];exact h,.inr ⟨rfl,rfl,rfl⟩⟩}
 have ax:∀ (i:Nat) x,(H.set id (.tok n e s))[i]?=some x→(i=id∧x=.tok n e s)∨(i≠id∧H[i]?=some x):=au
 have hblk:∀ (i:Nat) x b',(H.set id (.tok n e s))[i]?=some x→g'.aD i x b'→i≠id∧H[i]?=some x∧g.aD i x b':=by
  intro i x b' he dD
  rcases ax i x he with ⟨rfl,rfl⟩|⟨aR,h⟩
  ·simp[G.aD,mw] at dD
  ·refine⟨aR,h,?_⟩
   cases x with
   |tok m e1 s1=>simp only[G.aD,gN i aR] at dD ⊢;exact dD
   |row c=>exact dD
   |free=>exact dD
   |dead=>exact dD
   |bn l1 e1 s1=>simp only[G.aD,gN i aR] at dD ⊢;exact dD
   |ob=>exact dD
 refine⟨g',⟨hw.pr,hw.xs,?_,?_,?_,?_,?_,?_,?_,hw.kc⟩,bK,mw⟩
 ·intro i x b' he dD
  obtain⟨_,h1,h2⟩:=hblk i x b' he dD
  exact hw.aD i x b' h1 h2
 ·intro i i' x x' b' he qj yO xE
  obtain⟨_,h1,h2⟩:=hblk i x b' he yO
  obtain⟨_,h3,h4⟩:=hblk i' x' b' qj xE
  exact hw.sep i i' x x' b' h1 h3 h2 h4
 ·intro i ci hi
  rcases ax i _ hi with ⟨_,he⟩|⟨aR,h⟩
  ·cases he
  ·obtain⟨b1,dx,sj,g1,g2,g3,g4,g5⟩:=hw.row i ci h
   exact⟨b1,dx,sj,g1,g2,g3,fun k x v hx hv=>(g4 k x v hx hv).mono bK,g5⟩
 ·intro i m1 e1 s1 hi
  rcases ax i _ hi with ⟨rfl,he⟩|⟨aR,h⟩
  ·injection he with h1 h2 h3
   subst h1;subst h2;subst h3
   exact au
  ·obtain⟨a,c,g1,g2,g3,g4⟩:=hw.tok i m1 e1 s1 h
   exact au
 ·intro i l e1 s1 hi
  rcases ax i _ hi with ⟨rfl,he⟩|⟨aR,h⟩
  ·cases he
  ·obtain⟨a,c,g1,g2,g3,g4⟩:=hw.bn i l e1 s1 h
   exact au
 ·intro i x hi
  rcases ax i _ hi with ⟨_,he⟩|⟨aR,h⟩
  ·cases he
  ·obtain⟨b1,q1,q2,q3,q4⟩:=hw.ob i x h
   exact⟨b1,q1,x.st bK.w (gN i aR) rfl rfl (fun _ _=>rfl) q2,q3,q4⟩
 ·intro i hi
  have aR:i≠id:=au
  rw[gN i aR]
  refine hw.free i ?_
  exact au
theorem aV.tt{Pr:Nat→Nat→Prop}{w:World}{l:List D}{r:Value}{s:Nat}(h:aV Pr w (.sl l) r)(hs:∀ x∈l,x.cells.length=s)(eL:∀ x∈l,∀ y∈x.cells,y.one=true)(aR:l≠[]):
  ∃ (b o cap:Nat) (f:Nat→Value),r=.slice (some ⟨b,o,none⟩) l.length cap∧l.length≤cap∧(∀ k,k<l.length*s→Pr b (o+k)∧w.cell? ⟨b,o+k,none⟩=some (f k))∧(∀ k x,(D.flat l)[k]?=some x→aV Pr w x (f k))∧
   (∀ k,k<l.length*s→(f k).oneCell'=true):=by
 cases h with
 |sl _ a cap s' f OP ji k_ gM=>
  obtain⟨b,o,rfl,hk⟩:=k_ aR
  obtain⟨x0,sb⟩:=ad4 l aR
  have CS:s'=s:=au
  subst CS
  refine⟨b,o,cap,f,rfl,ji,hk,gM,fun k xA=>?_⟩
  have aN:k<(D.flat l).length:=by rw[dG hs];exact xA
  have mG:=acb aN
  simp only[D.flat,List.mem_flatMap] at mG
  obtain⟨x,hx,hy⟩:=mG
  exact(gM k _ (aaV aN)).one (eL x hx _ hy)
theorem pY(a b:List D):D.flat (a++b)=D.flat a++D.flat b:=by simp[D.flat]
theorem aV.I0{Pr Pr':Nat→Nat→Prop}{w w':World}{l l':List D}{s b cap:Nat}{arr:Array Value}{et:TypeId}{f f':Nat→Value}
  (Z9:∀ {x:D} {r:Value},aV Pr w x r→aV Pr' w' x r)(hs:∀ x∈l++l',x.cells.length=s)(ji:(l++l').length≤cap)
  (J_:∀ o,o<(l++l').length*s→Pr' b o)(hb:w'.heap[b]?=some (.cells arr et (0,0)))
  (h1:∀ k,k<l.length*s→arr[k]?=some (f k))(h2:∀ k,k<l'.length*s→arr[l.length*s+k]?=some (f' k))
  (r1:∀ k x,(D.flat l)[k]?=some x→aV Pr w x (f k))(r2:∀ k x,(D.flat l')[k]?=some x→aV Pr w x (f' k)):
  aV Pr' w' (.sl (l++l')) (.slice (some ⟨b,0,none⟩) (l++l').length cap):=by
 have Hi:∀ x∈l,x.cells.length=s:=fun x hx=>hs x (by simp[hx])
 have AI:∀ x∈l',x.cells.length=s:=fun x hx=>hs x (by simp[hx])
 have fl:=dG Hi
 have hmul:(l++l').length*s=l.length*s+l'.length*s:=au
 refine .sl _ _ cap s (fun k=>arr.getD k undef) hs ji (fun _=>⟨b,0,rfl,fun k hk=>?_⟩) (fun k x hx=>?_)
 ·have hc:arr[k]?=some (arr.getD k undef):=by
   by_cases xA:k<l.length*s
   ·exact au
   ·have:=h2 (k-l.length*s) (by omega)
    exact au
  exact⟨by simpa using J_ k hk,by rw[abY,aL hb];exact hc⟩
 ·rw[pY] at hx
  by_cases xA:k<l.length*s
  ·rw[aa1 (by omega)] at hx
   simp only[abB,h1 k xA,aci]
   exact au
  ·rw[aaY (by omega),fl] at hx
   have oJ:k-l.length*s<l'.length*s:=by
    have:=(aaS.1 hx).1
    rw[dG AI] at this;exact this
   have:=h2 (k-l.length*s) oJ
   exact au
theorem cJ(f:Nat→Value)(n k:Nat)(h:k<n):((List.range n).map f)[k]?=some (f k):=by simp[h]
theorem rm{t e s bytes:Nat}(ht:pt P t e s bytes){g:G}{w:World}{l l':List D}{a:Option Addr}{cap id:Nat}{e0:HE}{ra:Value}(hw:aQ g w H)(hH:H[id]?=some e0)
  (UI:e0=.free∨e0=.tok l.length e s)(hl:aV g.Pr w (.sl l) (.slice a l.length cap))(JW:a=none→cap=0)(vQ:aV g.Pr w (.sl l') ra)(aR:l'≠[])
  (hs:∀ x∈l++l',x.cells.length=s)(eL:∀ x∈l++l',∀ y∈x.cells,y.one=true)(iv:(l++l').length*bytes≤140737488355328)(hlen:(l++l').length≤4611686018427387904)(lP:cap<l.length+l'.length):
  ∃ rv w' g',(Builtin.append_ #[t,t] ty #[.slice a l.length cap,ra]).run P w=.ok rv w'∧aQ g' w' (H.set id (.tok (l++l').length e s))∧cG g w g' w'∧cu g' w' (.tk id (l++l')) rv:=by
 obtain⟨ie,z,im,dE,yP,ug,CE⟩:=ht.i
 have Hi:∀ x∈l,x.cells.length=s:=fun x hx=>hs x (by simp[hx])
 have AI:∀ x∈l',x.cells.length=s:=fun x hx=>hs x (by simp[hx])
 obtain⟨b',o',eZ,f',rfl,_,JZ,E7,L0⟩:=vQ.tt AI (fun x hx=>eL x (by simp[hx])) aR
 have rR:0<l'.length:=abA.2 aR
 simp only[aa9] at iv hlen
 let dR:=l.length+l'.length
 let C:=grownCap w dR cap e
 have hC:dR≤C:=adV w dR cap e
 have J':C≤9223372036854775807:=by
  have:=ac9 w dR cap e (by simp only[maxLen];omega)
  exact au
 have px:∀ (j:Nat) v,((List.range (l'.length*s)).map f')[j]?=some v→w.cell? ((⟨b',o',none⟩:Addr).add j)=some v:=by
  intro j v hv
  have hj:j<l'.length*s:=au
  rw[cJ _ _ _ hj] at hv
  rw[Addr.aT,(JZ j hj).2];exact hv
 obtain⟨f,gf,yR,dz,YK,Pp⟩:∃ (f:Nat→Value) (gf:List Value),gf.length=l.length*s∧
   (Builtin.append_ #[t,t] ty #[.slice a l.length cap,.slice (some ⟨b',o',none⟩) l'.length eZ]).run P w=
    .ok (.slice (some ⟨w.heap.size,0,none⟩) dR C) (w.drew.alloc (.cells (gf.toArray++((List.range (l'.length*s)).map f').toArray++Builtin.zeroCells z.cells (C-dR)) e))∧
   (∀ k,k<l.length*s→gf[k]?=some (f k))∧(∀ k x,(D.flat l)[k]?=some x→aV g.Pr w x (f k)):=by
  by_cases rS:l=[]
  ·subst rS
   refine⟨fun _=>undef,[],by simp,?_,by simp,by simp[D.flat]⟩
   cases a with
   |none=>
    obtain rfl:cap=0:=JW rfl
    have:=run_append_nil (P:=P) w t ty e ie z ht.u im ug ⟨b',o',none⟩ l'.length eZ ((List.range (l'.length*s)).map f') (by simp[dE]) px rR (by omega) (by rw[yP];simp at iv;omega)
    simpa[dR,C] using this
   |some ad=>
    have:=adD (P:=P) w t ty e ie z ht.u im ug ad 0 cap [] (by simp) (by simp) ⟨b',o',none⟩ l'.length eZ ((List.range (l'.length*s)).map f') (by simp[dE]) px
     (by simpa using lP) (by simp at hlen ⊢;omega) (ac8 (by simpa using lP) (by rw[yP];simpa using iv))
    simpa[dR,C] using this
  ·obtain⟨b,o,Cj,f,e1,_,hk,gM,Z_⟩:=hl.tt Hi (fun x hx=>eL x (by simp[hx])) rS
   injection e1 with e1 _ _
   subst e1
   have holds:∀ (j:Nat) v,((List.range (l.length*s)).map f)[j]?=some v→w.cell? ((⟨b,o,none⟩:Addr).add j)=some v:=by
    intro j v hv
    have hj:j<l.length*s:=au
    rw[cJ _ _ _ hj] at hv
    rw[Addr.aT,(hk j hj).2];exact hv
   refine⟨f,(List.range (l.length*s)).map f,by simp,?_,fun k hk=>cJ _ _ _ hk,gM⟩
   exact adD (P:=P) w t ty e ie z ht.u im ug ⟨b,o,none⟩ l.length cap ((List.range (l.length*s)).map f) (by simp[dE]) holds ⟨b',o',none⟩ l'.length eZ ((List.range (l'.length*s)).map f') (by simp[dE]) px
     lP (by omega) (ac8 lP (by rw[yP];exact iv))
 have kh:(gf.toArray++((List.range (l'.length*s)).map f').toArray++Builtin.zeroCells z.cells (C-dR)).size=C*s:=by
  simp only[adj,adh,yR,aa4,adG,size_zeroCells,CE]
  rw[←Nat.add_mul,←Nat.add_mul];congr 1;omega
 obtain⟨g',h1,h2,h3,h4,h5⟩:=hw.S1 (w':=w.drew.alloc (.cells (gf.toArray++((List.range (l'.length*s)).map f').toArray++Builtin.zeroCells z.cells (C-dR)) e)) (n:=dR) (e:=e) hH
  (UI.imp (fun h=>h) (fun h=>⟨_,h,by omega⟩)) ⟨rfl,rfl,rfl⟩ rfl kh hC J'
 refine⟨_,_,g',dz,by simpa[dR] using h1,h2,?_⟩
 have Mv:=aV.I0 (Pr':=g'.Pr) (w':=w.drew.alloc (.cells (gf.toArray++((List.range (l'.length*s)).map f').toArray++Builtin.zeroCells z.cells (C-dR)) e)) (l:=l) (l':=l') (s:=s) (b:=w.heap.size) (cap:=C) (f:=f) (f':=f')
  (fun h=>h.mono h2.pr) hs (by simpa[dR] using hC) (fun o ho=>h4 o (by simpa[dR] using ho)) h5
  (fun k hk=>by
   rw[Array.append_assoc,ab4 (by simp;omega)];simpa using YK k hk)
  (fun k hk=>by
   rw[Array.append_assoc,adT (by simp;omega),ab4 (by simp;omega)]
   have:l.length*s+k-gf.toArray.size=k:=by simp;omega
   rw[this];simpa using cJ f' _ _ hk) Pp E7
 simp only[aa9] at Mv
 refine .tk Mv h3 (by simp[dR]) (fun _=>rfl)
theorem jw{t e s bytes:Nat}(ht:pt P t e s bytes){w:World}{a a':Option Addr}{n cap eZ:Nat}(hn:n≤cap):
  (Builtin.append_ #[t,t] ty #[.slice a n cap,.slice a' 0 eZ]).run P w=.ok (.slice a n cap) w:=by
 obtain⟨ie,z,im,dE,yP,ug,CE⟩:=ht.i
 have hf:(Builtin.firstCells ie.size 0 (.slice a' 0 eZ)).run P w=.ok #[] w:=by
  cases a'<;>simp[Builtin.firstCells,loadCells,loadCellsFrom]
 cases a<;>simp[Builtin.append_,aaX ht.u,sizeOf,typeInfo,im,Builtin.lenOf,hn,hf,storeCells]
theorem kE{Pr:Nat→Nat→Prop}{w:World}{l:List D}{r:Value}(h:aV Pr w (.sl l) r):∃ a cap,r=.slice a l.length cap∧l.length≤cap:=by
 cases h with
 |sl _ a cap s f h1 h2=>exact⟨a,cap,rfl,h2⟩
theorem J4{x y:Operand}{t e s bytes id:Nat}{l l':List D}(ht:pt P t e s bytes)(hx:Is (ρ x) (.tk id l))(hy:As (ρ y) (.sl l'))(hH:H[id]?=some (.tok l.length e s))
  (hs:∀ x∈l++l',x.cells.length=s)(eL:∀ x∈l++l',∀ y∈x.cells,y.one=true)(iv:(l++l').length*bytes≤140737488355328)(hlen:(l++l').length≤4611686018427387904):
  bj P (.call ⟨.builtin .append,#[x,y],#[t,t]⟩) ty ρ H (.tk id (l++l')) (H.set id (.tok (l++l').length e s)):=by
 intro g w r pos after guard dst hw h
 have h1:=hx.rep (h x (by simp[Op.operands,Call.operands]))
 have h2:=hy.rep (h y (by simp[Op.operands,Call.operands]))
 obtain⟨a,cap,k1,k2,k3,k4⟩:=hw.tok id l.length e s hH
 have Kb:=h1
 generalize fQ:r x=vx at h1 Kb
 cases h1 with
 |@tk _ _ _ m sk a0 hd uh hle heq=>
  rw[k1] at uh
  injection uh with uh;injection uh with hm uh;injection uh with ha hc
  subst hm;subst ha;subst hc
  have hr:=heq rfl
  subst hr
  have eC:id<H.length:=(aaS.1 hH).1
  suffices wj:∃ rv w' g',(Builtin.append_ #[t,t] ty #[.slice a l.length cap,r y]).run P w=.ok rv w'∧aQ g' w' (H.set id (.tok (l++l').length e s))∧cG g w g' w'∧cu g' w' (.tk id (l++l')) rv by
   obtain⟨rv,w',g',e1,e2,e3,e4⟩:=wj
   unfold aO
   have:(execOp r ⟨dst,.call ⟨.builtin .append,#[x,y],#[t,t]⟩,ty,pos,after,guard⟩).run P w=.ok (.value rv) w':=by
    simp[execOp,resolve,invoke,builtin,fQ,e1]
   exact au
  by_cases rS:l'=[]
  ·subst rS
   obtain⟨a',eZ,Hg,_⟩:=kE h2
   rw[Hg]
   refine⟨_,w,g,jw ht k2,?_,.refl _ _,?_⟩
   ·have:H.set id (.tok (l++[]).length e s)=H:=by
     apply ab6
     exact au
    rw[this];exact hw
   ·exact au
  ·have rR:0<l'.length:=abA.2 rS
   by_cases jd:l.length+l'.length≤cap
   ·obtain⟨b,arr,rfl,hb,jj,J_⟩:=k4 (by omega)
    obtain⟨ie,z,im,dE,yP,ug,CE⟩:=ht.i
    have Hi:∀ x∈l,x.cells.length=s:=fun x hx=>hs x (by simp[hx])
    have AI:∀ x∈l',x.cells.length=s:=fun x hx=>hs x (by simp[hx])
    obtain⟨b',o',eZ,f',Hg,_,JZ,E7,L0⟩:=h2.tt AI (fun x hx=>eL x (by simp[hx])) rS
    rw[Hg]
    have px:∀ (j:Nat) v,((List.range (l'.length*s)).map f')[j]?=some v→w.cell? ((⟨b',o',none⟩:Addr).add j)=some v:=by
     intro j v hv
     have hj:j<l'.length*s:=au
     rw[cJ _ _ _ hj] at hv
     rw[Addr.aT,(JZ j hj).2];exact hv
    have E8:∀ u∈(List.range (l'.length*s)).map f',u.oneCell'=true:=au
    have hmul:(l.length+l'.length)*s=l.length*s+l'.length*s:=abV _ _ _
    have zp:l.length*s+l'.length*s≤arr.size:=by
     rw[jj,←hmul];exact abg _ jd
    have dz:=run_append_room (P:=P) w t ty e ie ht.u im b l.length cap arr hb ⟨b',o',none⟩ l'.length eZ ((List.range (l'.length*s)).map f') (by simp[dE]) px E8 jd (by rw[dE];simpa using zp)
    rw[dE] at dz
    have hold:∀ k,k<l.length*s→((arr.toList.take (l.length*s)++(List.range (l'.length*s)).map f'++arr.toList.drop (l.length*s+((List.range (l'.length*s)).map f').length)).toArray)[k]?=arr[k]?:=fun k hk=>by
     exact au
    have VK:∀ k,k<l'.length*s→((arr.toList.take (l.length*s)++(List.range (l'.length*s)).map f'++arr.toList.drop (l.length*s+((List.range (l'.length*s)).map f').length)).toArray)[l.length*s+k]?=some (f' k):=fun k hk=>by
     have aN:(List.take (l.length*s) arr.toList).length=l.length*s:=au
     rw[aca,abk,aaY (by omega),aa1 (by simp;omega)]
     exact au
    obtain⟨g',w1,w2,w3,w4⟩:=hw.VJ (m:=l'.length) (w':=w.setRow b _) hH k1 hb (by omega) ⟨rfl,rfl,rfl⟩ (acJ w b _) (acR w b arr _ e _ hb) (fun b' aR=>acQ w b b' _ aR)
     (by simp;omega) jd rR hold
    refine⟨_,_,g',dz,by simpa using w1,w2,?_⟩
    have VM:∃ f:Nat→Value,(∀ k,k<l.length*s→arr[k]?=some (f k))∧(∀ k x,(D.flat l)[k]?=some x→aV g.Pr w x (f k)):=by
     by_cases Ho:l=[]
     ·subst Ho;exact⟨fun _=>undef,by simp,by simp[D.flat]⟩
     ·obtain⟨b2,o2,Cj,f,e1,_,hk,gM,_⟩:=hd.tt Hi (fun x hx=>eL x (by simp[hx])) Ho
      injection e1 with e1 _ _
      injection e1 with e1
      injection e1 with e1 e2
      subst e1;subst e2
      refine⟨f,fun k xA=>?_,gM⟩
      have:=(hk k xA).2
      rw[abY,aL hb] at this;exact this
    obtain⟨f,YK,Pp⟩:=VM
    have Mv:=aV.I0 (Pr':=g'.Pr) (w':=w.setRow b _) (l:=l) (l':=l') (s:=s) (b:=b) (cap:=cap) (f:=f) (f':=f') (fun h=>h.mono w2.pr) hs (by simpa using jd) (fun o ho=>w4 o (by simpa using ho)) (acR w b arr _ e _ hb)
     (fun k hk=>by rw[hold k hk];exact YK k hk) VK Pp E7
    simp only[aa9] at Mv
    exact .tk Mv w3 (by simp) (fun _=>rfl)
   ·refine rm ht hw hH (.inr rfl) hd (fun ha=>?_) h2 rS hs eL iv hlen (by omega)
    by_cases aN:l.length<cap
    ·exact au
    ·cases hd with
     |sl _ _ _ s' f OP ji k_ gM=>
      by_cases Ho:l=[]
      ·exact au
      ·exact au
theorem G5{x y:Operand}{t e s bytes n:Nat}{l l':List D}(ht:pt P t e s bytes)(hx:Is (ρ x) (.ex l))(hy:As (ρ y) (.sl l'))(hn:H.length=n)
  (hs:∀ x∈l++l',x.cells.length=s)(eL:∀ x∈l++l',∀ y∈x.cells,y.one=true)(iv:(l++l').length*bytes≤140737488355328)(hlen:(l++l').length≤4611686018427387904):
  bj P (.call ⟨.builtin .append,#[x,y],#[t,t]⟩) ty ρ H (.tk n (l++l')) (H++[.tok (l++l').length e s]):=by
 subst hn
 intro g w r pos after guard dst hw h
 have h1:=hx.rep (h x (by simp[Op.operands,Call.operands]))
 have h2:=hy.rep (h y (by simp[Op.operands,Call.operands]))
 generalize fQ:r x=vx at h1
 have Fb:(H++[HE.free])[H.length]?=some .free:=by simp
 cases h1 with
 |@ex _ a hd=>
  suffices wj:∃ rv w' g',(Builtin.append_ #[t,t] ty #[.slice a l.length l.length,r y]).run P w=.ok rv w'∧aQ g' w' ((H++[HE.free]).set H.length (.tok (l++l').length e s))∧cG g w g' w'∧cu g' w' (.tk H.length (l++l')) rv by
   obtain⟨rv,w',g',e1,e2,e3,e4⟩:=wj
   unfold aO
   have:(execOp r ⟨dst,.call ⟨.builtin .append,#[x,y],#[t,t]⟩,ty,pos,after,guard⟩).run P w=.ok (.value rv) w':=by
    simp[execOp,resolve,invoke,builtin,fQ,e1]
   exact au
  by_cases rS:l'=[]
  ·subst rS
   obtain⟨a',eZ,Hg,_⟩:=kE h2
   rw[Hg]
   obtain⟨g',w1,w2,w3⟩:=hw.il.zR (n:=(l++[]).length) (s:=s) (e:=e) (a:=a) Fb (by omega)
   refine⟨_,w,g',jw ht (aaZ _),w1,w2,?_⟩
   simp only[acz] at w3 ⊢
   exact .tk (hd.mono w2.pr) w3 (aaZ _) (fun _=>rfl)
  ·have rR:0<l'.length:=abA.2 rS
   refine rm ht hw.il Fb (.inl rfl) hd (fun ha=>?_) h2 rS hs eL iv hlen (by omega)
   cases hd with
   |sl _ _ _ s' f OP ji k_ gM=>
    by_cases Ho:l=[]
    ·subst Ho;rfl
    ·exact au
end
end Go.Proofs.YtjdnbobilgamdaaGreatDoor.Ab
end
section
namespace Go.Proofs.YtjdnbobilgamdaaGreatDoor.Ab
open Go
def rT:List V→Nat→V
 |[],_=>.any
 |v::_,0=>v
 |_::l,n+1=>rT l n
inductive rk(P:Program)(st:St):List ResultVar→List V→Prop
 |nil:rk P st [] []
 |tmp {t:Nat} {v:V} {rs:List ResultVar} {vs:List V}:Is (st.env t) v→rk P st rs vs→rk P st (.tmp t::rs) (v::vs)
 |mS {a ty id off n:Nat} {c cs:List V} {rs:List ResultVar} {vs:List V}:Is (st.env a) (.ptr id off)→st.H[id]?=some (.row c)→(c.drop off).take n=cs→cs.length=n→Ag P ty n→
   rk P st rs vs→rk P st (.cell a ty::rs) (.agg cs::vs)
 |VN {a ty id off:Nat} {c:List V} {v:V} {rs:List ResultVar} {vs:List V}:Is (st.env a) (.ptr id off)→st.H[id]?=some (.row c)→c[off]?=some v→Sc P ty→
   rk P st rs vs→rk P st (.cell a ty::rs) (v::vs)
def kF:List V→V
 |[v]=>v
 |vs=>.gd vs
inductive Le:V→V→Prop
 |any {v:V}:Le v .any
 |of {v u:V}:v=u→Le v u
 |d {v:V} {x:D}:v.zP=some x→Le v (.d x)
theorem Le.int{k:IntKind}{a b:Int}(h:a=b):Le (.d (.int k a)) (.d (.int k b)):=.of (by rw[h])
theorem Le.dd{a b:D}(h:a=b):Le (.d a) (.d b):=.of (by rw[h])
theorem Le.tk{id:Nat}{a b:List D}(h:a=b):Le (.tk id a) (.tk id b):=.of (by rw[h])
theorem Le.rep{g:G}{w:World}{v u:V}{r:Value}(h:Le v u)(hr:cu g w v r):cu g w u r:=by
 cases h with
 |any=>exact .any
 |of h=>exact h▸hr
 |d h=>exact .d (hr.zP h)
section
variable {P:Program}
def mT(tmps:Array Value):ResultVar→Sem Value
 |.tmp t=>pure (tmps.getD t undef)
 |.cell a t=>do loadVar t (←asAddr (tmps.getD a undef))
theorem A8(fnn:Func)(tmps:Array Value):results fnn tmps=(do let vs ←fnn.results.mapM (mT tmps);pure (if h:vs.size=1 then vs[0] else .tuple vs)):=rfl
theorem yY(a:Addr):asAddr (.pointer (some a))=pure a:=rfl
theorem rk.run{st:St}{g:G}{w:World}{tmps:Array Value}(hw:aQ g w st.H)(he:∀ i,cu g w (st.env i) (tmps.getD i undef)){rs:List ResultVar}{vs:List V}(h:rk P st rs vs):
  ∃ l:List Value,(rs.mapM (mT tmps)).run P w=.ok l w∧l.length=vs.length∧
   ∀ (i:Nat) x v,vs[i]?=some x→l[i]?=some v→cu g w x v:=by
 induction h with
 |nil=>exact⟨[],by simp,rfl,by simp⟩
 |@tmp t v rs vs ht _ ih=>
  obtain⟨l,h1,h2,h3⟩:=ih
  refine⟨tmps.getD t undef::l,by simp only[ac4,mT,abl,abu,aa3,h1],by simp[h2],fun i x u hx hu=>?_⟩
  cases i with
  |zero=>simp only[aa',aaW] at hx hu;subst hx;subst hu;exact ht.rep (he t)
  |succ i=>exact h3 i x u (by simpa using hx) (by simpa using hu)
 |@mS a ty id off n c cs rs vs hp hH hc hn ht _ ih=>
  obtain⟨l,h1,h2,h3⟩:=ih
  have UH:=hp.rep (he a)
  generalize hv:tmps.getD a undef=pv at UH
  have hle:off+n≤c.length∨n=0:=au
  cases UH with
  |@ptr _ _ b hb=>
   obtain⟨b',arr,et,e1,e2,e3,e4,_⟩:=hw.row id c hH
   obtain rfl:b=b':=by rw[hb] at e1;exact aa5 e1
   have kD:∀ k,k<n→w.cell? ⟨b,off+k,none⟩=some (arr.getD (off+k) undef):=fun k hk=>by
    rw[aL e2]
    have:off+k<arr.size:=by omega
    exact au
   refine⟨.agg ((List.range n).map fun k=>arr.getD (off+k) undef).toArray::l,by simp only[ac4,mT,abl,hv,yY,abu,aa3,oK ht kD,h1],by simp[h2],fun i x u hx hu=>?_⟩
   cases i with
   |zero=>
    simp only[aa',aaW] at hx hu;subst hx;subst hu
    refine .agg (by simp[hn]) (fun i y v hy hv=>?_)
    have hi:i<n:=au
    have aN:off+i<arr.size:=by omega
    have rf:v=arr[off+i]:=au
    rw[rf]
    refine e4 (off+i) y _ ?_ (by simp[aN])
    rw[←hc,abj,aa2 hi,abn] at hy
    exact hy
   |succ i=>exact h3 i x u (by simpa using hx) (by simpa using hu)
 |@VN a ty id off c v rs vs hp hH hc ht _ ih=>
  obtain⟨l,h1,h2,h3⟩:=ih
  have UH:=hp.rep (he a)
  generalize hv:tmps.getD a undef=pv at UH
  cases UH with
  |@ptr _ _ b hb=>
   obtain⟨b',arr,et,e1,e2,e3,e4,_⟩:=hw.row id c hH
   obtain rfl:b=b':=by rw[hb] at e1;exact aa5 e1
   have aN:off<arr.size:=aa_ (aaS.1 hc).1 e3
   have kD:w.cell? ⟨b,off,none⟩=some arr[off]:=by rw[aL e2];simp[aN]
   refine⟨arr[off]::l,by simp only[ac4,mT,abl,hv,yY,abu,aa3,fE ht kD,h1],by simp[h2],fun i x u hx hu=>?_⟩
   cases i with
   |zero=>simp only[aa',aaW] at hx hu;subst hx;subst hu;exact e4 off _ _ hc (by simp[aN])
   |succ i=>exact h3 i x u (by simpa using hx) (by simpa using hu)
theorem sr{fnn:Func}{st:St}{g:G}{w:World}{tmps:Array Value}(hw:aQ g w st.H)(he:∀ i,cu g w (st.env i) (tmps.getD i undef)){vs:List V}(h:rk P st fnn.results.toList vs):
  ∃ r,(results fnn tmps).run P w=.ok r w∧cu g w (kF vs) r:=by
 obtain⟨l,h1,h2,h3⟩:=h.run hw he
 have hm:(fnn.results.mapM (mT tmps)).run P w=.ok l.toArray w:=by
  rw[ad5]
  exact au
 refine⟨if h:l.toArray.size=1 then l.toArray[0] else .tuple l.toArray,by simp only[A8,abl,hm,aa3,abu],?_⟩
 match vs,l,h2,h3 with
 |[v],[r],_,h3=>simpa[kF] using h3 0 v r rfl rfl
 |[],[],_,h3=>exact .gd (by simp) (by simp)
 |v::v'::vs,r::r'::l,h2,h3=>
  rw[dif_neg (by simp)]
  exact .gd (by simpa using h2) (fun i x u hx hu=>h3 i x u hx (by simpa using hu))
def kg(P:Program)(rs:List ResultVar)(R:V→List HE→Prop):Exit→St→Prop
 |.normal,st|.ret,st=>∃ vs v,rk P st rs vs∧Le (kF vs) v∧R v st.H
 |_,_=>False
theorem tu{g:G}{w:World}:∀ {args:List V} {vals:List Value},args.length=vals.length→(∀ (i:Nat) x v,args[i]?=some x→vals[i]?=some v→cu g w x v)→∀ (i:Nat),cu g w (rT args i) (vals.getD i undef)
 |[],_,_,_,i=>.any
 |a::args,[],h,_,_=>by simp at h
 |a::args,v::vals,h,hr,0=>by simpa[rT] using hr 0 a v rfl rfl
 |a::args,v::vals,h,hr,i+1=>by
  have:=tu (args:=args) (vals:=vals) (by simpa using h) (fun i x u hx hu=>hr (i+1) x u (by simpa using hx) (by simpa using hu)) i
  exact au
theorem tv:∀ {args:List V} {i:Nat},args.length≤i→rT args i=.any
 |[],_,_=>rfl
 |_::_,0,h=>by simp at h
 |_::args,i+1,h=>by simpa[rT] using tv (args:=args) (i:=i) (by simpa using h)
theorem aJ.ar{f:FuncId}{fnn:Func}{c:Code}{args:List V}{H:List HE}{R:V→List HE→Prop}(hf:P.funcs[f]?=some fnn)(hb:fnn.body=some c)(hn:args.length≤fnn.ntmps)
  (h:∀ g0 w0,aQ g0 w0 H→AW ⟨P,fnn.ntmps,g0,w0⟩ c (kg P fnn.results.toList R) ⟨rT args,H⟩):aJ P f args H R:=by
 intro g w vals hw hs ha
 refine calls_of_wp hf hb (aea (h g w hw {tmps:=vals++Array.replicate (fnn.ntmps-vals.size) undef,defers:=[] } w ⟨rfl,by simp;omega,g,hw,.refl _ _,fun i=>?_⟩) ?_)
 ·by_cases hi:i<args.length
  ·have:=tu (args:=args) (vals:=vals.toList) (by simpa using hs.symm) (fun i x v hx hv=>ha i x v hx (by simpa[aa0] using hv)) i
   have e:(vals++Array.replicate (fnn.ntmps-vals.size) undef).getD i undef=vals.toList.getD i undef:=by
    simp[abB,ab4 (show i<vals.size by omega)]
   rw[e];exact this
  ·show cu g w (rT args i) _
   rw[tv (by omega)];exact .any
 ·rintro e a' w' ⟨mH,⟨h1,h2,g',h3,h4,h5⟩,hq⟩
  have fin:∀ mH:St,aQ g' w' mH.H→(∀ i,cu g' w' (mH.env i) (a'.tmps.getD i undef))→(∃ vs v,rk P mH fnn.results.toList vs∧Le (kF vs) v∧R v mH.H)→
    ∃ v,(results fnn a'.tmps).run P w'=.ok v w'∧∃ rv res IE H',Ending.returned v=.returned rv∧aQ IE w' H'∧cG g w IE w'∧cu IE w' res rv∧R res H':=by
   rintro mH h3 h5 ⟨vs,v,hr,hle,hR⟩
   obtain⟨r,e1,e2⟩:=sr (fnn:=fnn) h3 h5 hr
   exact⟨r,e1,r,v,g',mH.H,rfl,h3,h4,hle.rep e2,hR⟩
  cases e with
  |normal=>exact⟨h1,fin mH h3 h5 hq⟩
  |ret=>exact⟨h1,fin mH h3 h5 hq⟩
  |exit id=>exact hq.elim
  |goto l=>exact hq.elim
  |panic c=>exact hq.elim
  |outgrown=>exact hq.elim
theorem Fn.ar{f:FuncId}{fnn:Func}{c:Code}{args:List D}{res:D}(hf:P.funcs[f]?=some fnn)(hb:fnn.body=some c)(hn:args.length≤fnn.ntmps)
  (h:∀ g0 w0,aQ g0 w0 []→AW ⟨P,fnn.ntmps,g0,w0⟩ c (kg P fnn.results.toList fun r _=>r=.d res) ⟨rT (args.map .d),[]⟩):Fn P f args res:=
 aJ.ar hf hb (by simpa using hn) h
theorem kg.d{rs:List ResultVar}{st:St}{vs:List V}{x:D}(h:rk P st rs vs)(hx:(kF vs).zP=some x){y:D}(hy:x=y):∃ vs v,rk P st rs vs∧Le (kF vs) v∧v=.d y:=
 ⟨vs,.d x,h,.d hx,by rw[hy]⟩
def XH(P:Program)(f:FuncId)(args:List D)(l:List D)(e:TypeId)(s:Nat):Prop:=aJ P f (args.map .d) [] fun r H'=>r=.tk 0 l∧H'=[.tok l.length e s]
def YL(P:Program)(rs:List ResultVar)(l:List D)(e:TypeId)(s:Nat):Exit→St→Prop
 |.normal,st|.ret,st=>∃ v,rk P st rs [v]∧l.length≤9223372036854775807∧(v=.ex l∨∃ k,v=.tk k l∧st.H[k]?=some (.tok l.length e s))
 |_,_=>False
theorem aQ.PM{g:G}{w:World}{H:List HE}{k n s:Nat}{e:TypeId}(hw:aQ g w H)(hH:H[k]?=some (.tok n e s)):
  ∃ g',aQ g' w [.tok n e s]∧g'.Pr=g.Pr∧g'.X=g.X∧g'.τ 0=g.τ k∧(∀ id,g'.σ id=none):=by
 refine⟨{σ:=fun _=>none,τ:=fun i=>if i=0 then g.τ k else none,υ:=fun _ _=>False,X:=g.X,Pr:=g.Pr },⟨hw.pr,hw.xs,?_,?_,?_,?_,?_,?_,?_,hw.kc⟩,rfl,rfl,by simp,fun _=>rfl⟩
 ·intro i x b hx hb
  match i,hx with
  |0,hx=>
   simp only[aa',aaW] at hx;subst hx
   exact hw.aD k _ b hH (by simpa[G.aD] using hb)
  |i+1,hx=>simp at hx
 ·exact au
 ·exact au
 ·intro i m e' s' hx
  match i,hx with
  |0,hx=>
   simp only[aa',aaW,HE.tok.injEq] at hx
   obtain⟨rfl,rfl,rfl⟩:=hx
   simpa using hw.tok k n e s hH
  |i+1,hx=>simp at hx
 ·exact au
 ·exact au
 ·exact au
theorem XH.ar{f:FuncId}{fnn:Func}{c:Code}{args:List D}{l:List D}{e:TypeId}{s:Nat}(hf:P.funcs[f]?=some fnn)(hb:fnn.body=some c)(hn:args.length≤fnn.ntmps)
  (h:∀ g0 w0,aQ g0 w0 []→AW ⟨P,fnn.ntmps,g0,w0⟩ c (YL P fnn.results.toList l e s) ⟨rT (args.map .d),[]⟩):XH P f args l e s:=by
 intro g w vals hw hs ha
 have VO:∀ id,g.τ id=none∧g.σ id=none:=fun id=>⟨(hw.free id (.inr (by simp))).2.1,(hw.free id (.inr (by simp))).1⟩
 refine calls_of_wp hf hb (aea (h g w hw {tmps:=vals++Array.replicate (fnn.ntmps-vals.size) undef,defers:=[] } w ⟨rfl,by simp at hs hn ⊢;omega,g,hw,.refl _ _,fun i=>?_⟩) ?_)
 ·by_cases hi:i<(args.map V.d).length
  ·have:=tu (args:=args.map V.d) (vals:=vals.toList) (by simpa using hs.symm) (fun i x v hx hv=>ha i x v hx (by simpa[aa0] using hv)) i
   have e:(vals++Array.replicate (fnn.ntmps-vals.size) undef).getD i undef=vals.toList.getD i undef:=by
    simp[abB,ab4 (show i<vals.size by omega)]
   rw[e];exact this
  ·show cu g w (rT (args.map V.d) i) _
   rw[tv (by omega)];exact .any
 ·rintro e' a' w' ⟨mH,⟨h1,h2,g',h3,h4,h5⟩,hq⟩
  have fin:(∃ v,rk P mH fnn.results.toList [v]∧l.length≤9223372036854775807∧(v=.ex l∨∃ k,v=.tk k l∧mH.H[k]?=some (.tok l.length e s)))→
    ∃ v,(results fnn a'.tmps).run P w'=.ok v w'∧∃ rv res IE H',Ending.returned v=.returned rv∧aQ IE w' H'∧cG g w IE w'∧cu IE w' res rv∧(res=.tk 0 l∧H'=[.tok l.length e s]):=by
   rintro⟨v,hr,hlen,hv⟩
   obtain⟨r,e1,e2⟩:=sr (fnn:=fnn) h3 h5 hr
   simp only[kF] at e2
   have key:∃ k H2 g2,aQ g2 w' H2∧cG g' w' g2 w'∧H2[k]?=some (.tok l.length e s)∧cu g2 w' (.tk k l) r:=by
    rcases hv with rfl|⟨k,rfl,hk⟩
    ·cases e2 with
     |@ex _ a hd=>
      obtain⟨g2,w1,w2,w3⟩:=h3.il.zR (id:=mH.H.length) (n:=l.length) (s:=s) (e:=e) (a:=a) (by simp) hlen
      rw[mO] at w1
      exact⟨mH.H.length,_,g2,w1,w2,by simp,.tk (hd.mono w2.pr) w3 (aaZ _) (fun _=>rfl)⟩
    ·exact⟨k,mH.H,g',h3,.refl _ _,hk,e2⟩
   obtain⟨k,H2,g2,k1,k2,k3,k4⟩:=key
   obtain⟨g3,m1,m2,m3,m4,m5⟩:=k1.PM k3
   have bK:=h4.trans k2
   refine⟨r,e1,r,.tk 0 l,g3,_,rfl,m1,?_,?_,rfl,rfl⟩
   ·exact{same:=bK.same,size:=bK.size,pr:=fun b o hp=>by rw[m2];exact bK.pr b o hp,pK:=fun b o hp=>bK.pK b o (by rw[←m2];exact hp),x:=fun b hb=>bK.x b (by rw[←m3];exact hb),aY:=bK.aY,σ:=fun id b hb=>(by rw[(VO id).2] at hb;cases hb),τ:=fun id m a cap ht=>(by rw[(VO id).1] at ht;cases ht)}
   ·cases k4 with
    |tk hd ht hle heq=>exact .tk (by rw[m2];exact hd) (by rw[m4];exact ht) hle heq
  cases e' with
  |normal=>exact⟨h1,fin hq⟩
  |ret=>exact⟨h1,fin hq⟩
  |exit id=>exact hq.elim
  |goto l=>exact hq.elim
  |panic c=>exact hq.elim
  |outgrown=>exact hq.elim
theorem XH.at{f:FuncId}{args:List D}{l:List D}{e:TypeId}{s:Nat}(h:XH P f args l e s){H:List HE}{n:Nat}(hn:H.length=n):
  aJ P f (args.map .d) H fun r H'=>r=.tk n l∧H'=H++[.tok l.length e s]:=by
 subst hn
 intro g w vals hw hs ha
 let g0:G:={σ:=fun _=>none,τ:=fun _=>none,υ:=fun _ _=>False,X:=fun _=>False,Pr:=g.Pr }
 have bR:aQ g0 w []:=by
  refine⟨hw.pr,fun b hb=>hb.elim,?_,?_,?_,?_,?_,?_,fun _ _=>⟨rfl,rfl,fun _ h=>h⟩,fun x hx=>⟨fun h=>h,(hw.kc x hx).2⟩⟩<;>intros<;>simp_all
 have JW:∀ (i:Nat) x v,(args.map V.d)[i]?=some x→vals[i]?=some v→cu g0 w x v:=by
  intro i x v hx hv
  have:=ha i x v hx hv
  simp only[aba,aa6] at hx
  obtain⟨y,_,rfl⟩:=hx
  cases this with
  |d hd=>exact .d hd
 refine(h g0 w vals bR hs JW).mono ?_
 rintro e' w' ⟨rv,r,g',H',rfl,lN,he,hr,rfl,rfl⟩
 have aY:∀ b,b<w.heap.size→w'.heap[b]?=w.heap[b]?:=fun b hb=>he.aY b hb (fun h=>h)
 have Fx:∀ (i:Nat) x,(H++[HE.tok l.length e s])[i]?=some x→(i<H.length∧H[i]?=some x)∨(i=H.length∧x=.tok l.length e s):=au
 have S2:=hw.free H.length (.inr (aaZ _))
 let g2:G:={σ:=g.σ,τ:=fun i=>if i=H.length then g'.τ 0 else g.τ i,υ:=g.υ,X:=fun b=>g.X b∨(g'.X b),Pr:=g'.Pr }
 have UC:∀ b,g'.X b→w.heap.size≤b:=fun b hb=>(he.x b hb).resolve_left (fun h=>h)
 have hold:∀ b o,g'.Pr b o→b<w.heap.size→g.Pr b o:=by
  intro b o hp hb
  rcases he.pK b o hp with h1|h1|h1
  ·exact h1
  ·exact h1.elim
  ·omega
 have CT:∀ i,i≠H.length→g2.τ i=g.τ i:=fun i hi=>by simp[g2,hi]
 have bK:cG g w g2 w':={
  same:=he.same
  size:=he.size
  pr:=he.pr
  pK:=fun b o hp=>by
   exact au
  x:=fun b hb=>hb.imp (fun h=>h) (UC b)
  aY:=fun b hb _=>aY b hb
  σ:=fun _ _ h=>h
  τ:=fun i m a cap h=>by
   have hi:i≠H.length:=fun e=>by subst e;rw[S2.2.1] at h;cases h
   exact⟨m,a,cap,by rw[CT i hi];exact h,.inr ⟨rfl,rfl,rfl⟩⟩}
 have hblk:∀ (i:Nat) x b,(H++[HE.tok l.length e s])[i]?=some x→g2.aD i x b→
   (i<H.length∧H[i]?=some x∧g.aD i x b∧b<w.heap.size)∨(i=H.length∧g'.aD 0 (.tok l.length e s) b∧w.heap.size≤b):=by
  intro i x b hx hb
  rcases Fx i x hx with ⟨hi,h1⟩|⟨rfl,rfl⟩
  ·have:g.aD i x b:=by
    cases x with
    |tok m e1 s1=>simp only[G.aD,CT i (by omega)] at hb ⊢;exact hb
    |row c=>exact hb
    |free=>exact hb
    |dead=>exact hb
    |bn l1 e1 s1=>simp only[G.aD,CT i (by omega)] at hb ⊢;exact hb
    |ob=>exact hb
   exact .inl ⟨hi,h1,this,hw.xs b (hw.aD i x b h1 this)⟩
  ·have:g'.aD 0 (.tok l.length e s) b:=by simpa[G.aD,g2] using hb
   exact .inr ⟨rfl,this,UC b (lN.aD 0 _ b (by simp) this)⟩
 refine⟨rv,.tk H.length l,g2,_,rfl,⟨lN.pr,?_,?_,?_,?_,?_,?_,?_,?_,hw.Ca bK⟩,bK,?_,rfl,rfl⟩
 ·rintro b (hb|hb)
  ·exact aa_ (hw.xs b hb) he.size
  ·exact lN.xs b hb
 ·intro i x b hx hb
  rcases hblk i x b hx hb with ⟨_,h1,h2,_⟩|⟨_,h1,_⟩
  ·exact .inl (hw.aD i x b h1 h2)
  ·exact .inr (lN.aD 0 _ b (by simp) h1)
 ·intro i i' x x' b hx kB hb dD
  rcases hblk i x b hx hb with ⟨_,h1,h2,h3⟩|⟨h1,h2,h3⟩<;>rcases hblk i' x' b kB dD with ⟨_,h4,h5,h6⟩|⟨h4,h5,h6⟩
  ·exact hw.sep i i' x x' b h1 h4 h2 h5
  ·omega
  ·omega
  ·omega
 ·intro i c hx
  rcases Fx i _ hx with ⟨hi,h⟩|⟨_,h⟩
  ·obtain⟨b,arr,et,h1,h2,h3,h4,h5⟩:=hw.row i c h
   have hb:b<w.heap.size:=hw.xs b (hw.aD i _ b h h1)
   exact⟨b,arr,et,h1,(aY b hb).trans h2,h3,fun k x v hx hv=>(h4 k x v hx hv).mono bK,fun o hp=>h5 o (hold b o hp hb)⟩
  ·cases h
 ·intro i n e1 s1 hx
  rcases Fx i _ hx with ⟨hi,h⟩|⟨rfl,h⟩
  ·obtain⟨a,cap,h1,h2,Dy,h3⟩:=hw.tok i n e1 s1 h
   exact au
  ·injection h with q1 q2 q3
   subst q1;subst q2;subst q3
   have:=lN.tok 0 l.length e1 s1 (by simp)
   exact au
 ·intro i l1 e1 s1 hx
  rcases Fx i _ hx with ⟨hi,h⟩|⟨rfl,h⟩
  ·obtain⟨a,cap,h1,h2,Dy,h3⟩:=hw.bn i l1 e1 s1 h
   refine⟨a,cap,by rw[CT i (by omega)];exact h1,h2,Dy,fun aN=>?_⟩
   obtain⟨b,arr,e1,e0,e2,e3,e4,e5⟩:=h3 aN
   have hb:b<w.heap.size:=hw.xs _ (hw.aD i _ b h (by simp[G.aD,h1,e1,aN]))
   exact⟨b,arr,e1,e0,(aY _ hb).trans e2,e3,fun o hp=>e4 o (hold _ o hp hb),fun k x v hx hv=>(e5 k x v hx hv).mono bK.pr⟩
  ·cases h
 ·intro i x hx
  rcases Fx i _ hx with ⟨hi,h⟩|⟨_,h⟩
  ·obtain⟨b,h1,h2,h3,h4⟩:=hw.ob i x h
   have hb:b<w.heap.size:=hw.xs b (hw.aD i _ b h (.inl h1))
   have Rh:∀ b',g.υ i b'→b'<w.heap.size:=fun b' hu=>hw.xs b' (hw.aD i _ b' h (.inr hu))
   exact⟨b,h1,x.st bK.w (CT i (by omega)) rfl (aY b hb) (fun b' hu=>aY b' (Rh b' hu)) h2,fun o hp=>h3 o (hold b o hp hb),fun b' o hu hp=>h4 b' o hu (hold b' o hp (Rh b' hu))⟩
  ·cases h
 ·intro i hi
  have:i≠H.length∧(H[i]?=some .free∨H.length≤i):=by
   exact au
  rw[CT i this.1]
  exact hw.free i this.2
 ·cases hr with
  |tk hd ht hle heq=>exact .tk hd (by simpa[g2] using ht) hle heq
def yN:List (Nat×V)→Nat→V→V
 |[],_,e=>e
 |(j,v)::r,i,e=>cond (Nat.beq i j) v (yN r i e)
def EZ:List Nat→Nat→Bool
 |[],_=>false
 |j::r,i=>cond (Nat.beq i j) true (EZ r i)
def head(aY:List Nat)(E:Nat→V)(m:List (Nat×V)):Nat→V:=fun i=>yN m i (cond (EZ aY i) (E i) .any)
def LX(E:Nat→V):List (Nat×V)→Prop
 |[]=>True
 |(i,v)::r=>Le (E i) v∧LX E r
def pW(E E':Nat→V):List Nat→Prop
 |[]=>True
 |i::r=>E' i=E i∧pW E E' r
theorem LX.look{g:G}{w:World}{E:Nat→V}{i:Nat}{e:V}{r:Value}(hr:cu g w (E i) r)(he:cu g w e r):∀ {m:List (Nat×V)},LX E m→cu g w (yN m i e) r
 |[],_=>he
 |(j,v)::m,h=>by
  by_cases AJ:Nat.beq i j=true
  ·have:i=j:=acK AJ
   subst this
   simp only[yN,AJ,abf]
   exact h.1.rep hr
  ·have:Nat.beq i j=false:=by rw[←Bool.not_eq_true];exact AJ
   simp only[yN,this,abJ]
   exact LX.look hr he h.2
theorem pW.mem{E E':Nat→V}{i:Nat}:∀ {k:List Nat},pW E E' k→EZ k i=true→E' i=E i
 |[],_,h=>by simp[EZ] at h
 |j::k,h,hi=>by
  by_cases AJ:Nat.beq i j=true
  ·have:i=j:=acK AJ
   subst this;exact h.1
  ·have hf:Nat.beq i j=false:=by rw[←Bool.not_eq_true];exact AJ
   simp only[EZ,hf,abJ] at hi
   exact pW.mem h.2 hi
theorem jv.head{F:FC}{st:St}{aY:List Nat}{E:Nat→V}{m:List (Nat×V)}{H:List HE}{a:Act}{w:World}(h:jv F st a w)(hm:LX st.env m)(hk:pW E st.env aY)(hH:st.H=H):
  jv F ⟨Ab.head aY E m,H⟩ a w:=by
 obtain⟨h1,h2,g,h3,h4,h5⟩:=h
 subst hH
 refine⟨h1,h2,g,h3,h4,fun i=>?_⟩
 refine LX.look (E:=st.env) (h5 i) ?_ hm
 cases hb:EZ aY i with
 |false=>exact .any
 |true=>simp only[abf];rw[←pW.mem hk hb];exact h5 i
theorem pW.refl(E:Nat→V):∀ (k:List Nat),pW E E k
 |[]=>trivial
 |_::k=>⟨rfl,pW.refl E k⟩
variable {F:FC}{Q:Exit→St→Prop}
theorem AW.U9{α:Type}{c:Code}{E:Nat→V}{H:List HE}(I:α→Prop)(aY:List Nat)(m:α→List (Nat×V))(μ:α→Nat)(Hm:α)(Sz:I Hm)(enter:LX E (m Hm))
  (round:∀ x,I x→AW F c (oT (fun s=>∃ x',I x'∧μ x'<μ x∧LX s.env (m x')∧pW E s.env aY∧s.H=H) Q) ⟨head aY E (m x),H⟩):AW F (.loop c) Q ⟨E,H⟩:=
 AW.loop I (fun x=>⟨head aY E (m x),H⟩) μ Hm Sz (fun _ _ hs=>hs.head enter (pW.refl E aY) rfl)
  (fun x hx=>(round x hx).mono fun e s hq=>by
   cases e with
   |normal=>
    obtain⟨x',h1,h2,h3,h4,h5⟩:=hq
    exact⟨x',h1,h2,fun a w hs=>hs.head h3 h4 h5⟩
   |_=>exact hq)
theorem AW.cut{α:Type}{x y:Code}{E:Nat→V}{H:List HE}(I:α→Prop)(aY:List Nat)(m:α→List (Nat×V))(K:α→List HE)
  (h1:AW F x (oT (fun s=>∃ z,I z∧LX s.env (m z)∧pW E s.env aY∧s.H=K z) Q) ⟨E,H⟩)(h2:∀ z,I z→AW F y Q ⟨head aY E (m z),K z⟩):AW F (.seq x y) Q ⟨E,H⟩:=
 AW.seq (h1.mono fun e s hq=>by
  cases e with
  |normal=>
   obtain⟨z,k1,k2,k3,k4⟩:=hq
   exact fun a w hs=>h2 z k1 a w (hs.head k2 k3 k4)
  |_=>exact hq)
theorem AW.mU{c:Code}{E:Nat→V}{H:List HE}(t:Nat)(e:TypeId)(s:Nat){l:List D}{n:Nat}(ht:E t=.ex l)(hn:H.length=n)(hl:l.length≤9223372036854775807)
  (h:AW F c Q ⟨Hc E t (.tk n l),H++[.tok l.length e s]⟩):AW F c Q ⟨E,H⟩:=by
 subst hn
 rintro a w ⟨h1,h2,g,h3,h4,h5⟩
 have hr:=h5 t
 simp only[ht] at hr
 generalize hv:a.tmps.getD t undef=v at hr
 cases hr with
 |@ex _ ad hd=>
  obtain⟨g2,w1,w2,w3⟩:=h3.il.zR (id:=H.length) (n:=l.length) (s:=s) (e:=e) (a:=ad) (by simp) hl
  rw[mO] at w1
  refine h a w ⟨h1,h2,g2,w1,h4.trans w2,fun i=>?_⟩
  by_cases hi:i=t
  ·subst hi
   simp only[mP,hv]
   exact .tk (hd.mono w2.pr) w3 (aaZ _) (fun _=>rfl)
  ·simp only[AG _ _ hi];exact(h5 i).mono w2
end
end Go.Proofs.YtjdnbobilgamdaaGreatDoor.Ab
end
