/- Going through maps in whatever order, and through texts: what it comes to. Maps and texts in terms of plain lists, arrays with indexes that are reckoned, rows that are given up to be data, closures that read. Conditions: none. -/
import Derived.Test.YtjdnbobilgamdaaGreatDoorAb27
import Derived.Below
section
namespace Go.Proofs.YtjdnbobilgamdaaGreatDoor.Ab
open Go
def rU{σ τ α:Type}(f:σ→α→Option (σ⊕τ))(fin:σ→τ):σ→List α→Option τ
 |s,[]=>some (fin s)
 |s,e::p=>(f s e).bind fun r=>match r with
  |.inl s'=>rU f fin s' p
  |.inr t=>some t
noncomputable def uU{σ τ α:Type}(f:σ→α→Option (σ⊕τ))(fin:σ→τ)(s:σ)(l:List α):Option τ:=
 open Classical in if h:∃ t,∀ p:List α,p.Perm l→rU f fin s p=some t then some h.choose else none
theorem Hr{σ τ α:Type}{f:σ→α→Option (σ⊕τ)}{fin:σ→τ}{s:σ}{l:List α}{t:τ}(h:uU f fin s l=some t):∀ p:List α,p.Perm l→rU f fin s p=some t:=by
 unfold uU at h
 split at h
 ·exact au
 ·cases h
theorem Ke{σ τ α:Type}{f:σ→α→Option (σ⊕τ)}{fin:σ→τ}{s:σ}{l:List α}{t:τ}(h:∀ p:List α,p.Perm l→rU f fin s p=some t):uU f fin s l=some t:=by
 unfold uU
 have hh:∃ t,∀ p:List α,p.Perm l→rU f fin s p=some t:=⟨t,h⟩
 rw[dif_pos hh]
 have h1:=hh.choose_spec l (aev _)
 rw[h l (aev _)] at h1
 exact h1.symm
def Fh(mid n:Nat)(S:List Nat):OB where
 φ:=fun g w _ r=>∃ bm,g.σ mid=some bm∧w.heap[r]?=some (.mapIter (some bm) n S.toArray n)
 st:=fun{g g' w w' _ r} he _ _ hb _ h=>by
  obtain⟨bm,h1,h2⟩:=h
  exact⟨bm,he.σ _ _ h1,hb.trans h2⟩
 fr:=false
 JV:=fun h=>by cases h
theorem DV{T:List Nat}{mid Vh n:Nat}{S:List Nat}(h:T[Vh]?=some mid):LW T (Fh mid n S) (Fh Vh n S):=fun{g w i j b} _ Rq=>by
 obtain⟨bm,h1,h2⟩:=Rq
 exact⟨bm,by simp[G.pM,h,h1],h2⟩
theorem aQ.drew{g:G}{w:World}{H:List HE}(h3:aQ g w H):aQ g w.drew H∧cG g w g w.drew:=by
 have bK:cG g w g w.drew:=⟨⟨rfl,rfl,rfl⟩,aaZ _,fun _ _ h=>⟨h,rfl⟩,fun _ _ h=>.inl h,fun _ h=>.inl h,fun _ _ _=>rfl,fun _ _ h=>h,fun _ m a cap h=>⟨m,a,cap,h,.inr ⟨rfl,rfl,rfl⟩⟩⟩
 refine⟨⟨h3.pr,h3.xs,h3.aD,h3.sep,fun id c hc=>?_,h3.tok,fun id l e s hc=>?_,fun id x hc=>?_,h3.free,h3.Ca bK⟩,bK⟩
 ·obtain⟨b,arr,et,e1,e2,e3,e4,e5⟩:=h3.row id c hc
  exact⟨b,arr,et,e1,e2,e3,fun k x v hx hv=>(e4 k x v hx hv).mono bK,e5⟩
 ·obtain⟨a,cap,k1,k2,k3,k4⟩:=h3.bn id l e s hc
  refine⟨a,cap,k1,k2,k3,fun aN=>?_⟩
  obtain⟨b,arr,q1,q0,q2,q3,q4,q5⟩:=k4 aN
  exact⟨b,arr,q1,q0,q2,q3,q4,fun k x v hx hv=>(q5 k x v hx hv).mono bK.pr⟩
 ·obtain⟨b,q1,q2,q3,q4⟩:=h3.ob id x hc
  exact⟨b,q1,x.st bK.w rfl rfl rfl (fun _ _=>rfl) q2,q3,q4⟩
section
variable {P:Program}{ρ:Operand→V}{H:List HE}{ty:TypeId}
theorem Fi{x:Operand}{t kt et:TypeId}{mid n:Nat}{M:List (D×D)}(ht:P.underlying t=some (.map kt et))(hx:Is (ρ x) (.mp mid))(hH:H[mid]?=some (.ob (oY M)))(hn:H.length=n):
  bj P (.range t x) ty ρ H (.ptr n 0) (H++[.ob (Fh mid M.length [])]):=by
 subst hn
 intro g w r pos after guard dst hw h
 obtain⟨b,hb,hr⟩:=hx.mp (h x (by simp[Op.operands]))
 obtain⟨b',f1,⟨es,e1,e2,e3⟩,f3,_⟩:=hw.ob mid _ hH
 obtain rfl:b=b':=by rw[hb] at f1;exact aa5 f1
 obtain⟨g',h1,h2,h3⟩:=hw.il.L_ (id:=H.length) (x0:=Fh mid M.length []) (o0:=.mapIter (some b) M.length #[] M.length) (by simp) (fun g' w' he hh=>⟨b,he.σ _ _ hb,hh⟩)
 rw[mO] at h1
 unfold aO
 simp[execOp,hr,Instr.range,aaX ht,acj e1,Result.andThen]
 exact⟨g',h1,h2,.ptr h3⟩
theorem Ma{x:Operand}{mid rid i:Nat}{M:List (D×D)}{S:List Nat}{e:D×D}(hx:Is (ρ x) (.ptr rid 0))(hH:H[rid]?=some (.ob (Fh mid M.length (S++[i]))))(hM:H[mid]?=some (.ob (oY M)))(he:M[i]?=some e):
  bj P (.entry x) ty ρ H (.gd [.d e.1,.d e.2]) H:=
 bj.aW fun g w r hw h=>by
  obtain⟨b,f1,⟨es,e1,e2,e3⟩,f3,_⟩:=hw.ob mid _ hM
  obtain⟨rb,r1,⟨bm,r2,r3⟩,_⟩:=hw.ob rid _ hH
  obtain rfl:b=bm:=by rw[f1] at r2;exact aa5 r2
  have hp:=hx.rep (h x (by simp[Op.operands]))
  generalize hr:r x=u at hp
  cases hp with
  |@ptr _ _ b' hb=>
   obtain rfl:b'=rb:=by rw[hb] at r1;exact aa5 r1
   have hi:i<es.size:=au
   have Yj:es[i]?=some es[i]:=by simp[hi]
   obtain⟨q1,q2,q3⟩:=e3 i e _ he Yj
   have Vi:(es.toList.map (·.born)).Nodup:=by
    have:es.toList.map (·.born)=List.range es.size:=by
     apply aee
     ·simp
     ·intro k h1 h2
      simp only[aa4,abL] at h1
      obtain⟨y,hy⟩:∃ y,M[k]?=some y:=⟨_,aaV (by omega)⟩
      exact au
    exact au
   have dz:=run_entry_at (P:=P) w b' b M.length S.toArray es M.length es[i] (by rw[q1];simpa using r3) e1 (by simp) Vi
   refine⟨.tuple #[es[i].key,es[i].val],fun _ _ _ _=>by simp[execOp,hr,dz],.gd rfl (fun k y v hy hv=>?_)⟩
   match k,hy,hv with
   |0,hy,hv=>simp at hy hv;subst hy;subst hv;exact .d q2
   |1,hy,hv=>simp at hy hv;subst hy;subst hv;exact .d q3
   |k+2,hy,_=>simp at hy
def Vj(P:Program)(o:Op)(ty:TypeId)(ρ:Operand→V)(H:List HE)(R:V→List HE→Prop):Prop:=
 ∀ g w r pos after guard dst,aQ g w H→(∀ x,x∈o.operands→cu g w (ρ x) (r x))→
  aO P ⟨dst,o,ty,pos,after,guard⟩ r w fun rv w'=>∃ g' v H',R v H'∧aQ g' w' H'∧cG g w g' w'∧cu g' w' v rv
theorem AL.Vk{F:FC}{K:St→Prop}{st:St}{ops:Array Oper}{dst:Option Nat}{o:Op}{ty:TypeId}{pos:String}{after:Array Edge}{rest:List Oper}{R:V→List HE→Prop}
  (hd:vU dst F.n=true)(h:Vj F.P o ty (Ab.ρ st.env) st.H R)(k:∀ v H',R v H'→AL F ops K rest ⟨lL st.env dst v,H'⟩):AL F ops K (⟨dst,o,ty,pos,after,none⟩::rest) st:=by
 have hd:=uS hd
 rintro a w ⟨h1,h2,g,h3,h4,h5⟩
 simp only[Hn,Region.wanted,abh]
 refine aO.wp (h g w a.eval pos after none dst h3 (fun x _=>cu.eval h5 x)) ?_
 rintro rv w' ⟨g',v,H',hR,lN,he,hr⟩
 exact k v H' hR _ _ (jv.put h1 h2 h4 h5 hd lN he hr)
theorem Hs{x:Operand}{mid rid:Nat}{M:List (D×D)}{S:List Nat}(hx:Is (ρ x) (.ptr rid 0))(hH:H[rid]?=some (.ob (Fh mid M.length S)))(hM:H[mid]?=some (.ob (oY M))):
  Vj P (.next x false) ty ρ H fun v H'=>(v=.gd [.d (.bool false)]∧H'=H∧∀ i,i<M.length→i∈S)∨
   ∃ i e,M[i]?=some e∧i∉S∧v=.gd [.d (.bool true),.d e.1,.d e.2]∧H'=H.set rid (.ob (Fh mid M.length (S++[i]))):=by
 intro g w r pos after guard dst hw h
 obtain⟨b,f1,⟨es,e1,e2,e3⟩,f3,_⟩:=hw.ob mid _ hM
 obtain⟨rb,r1,⟨bm,r2,r3⟩,_⟩:=hw.ob rid _ hH
 obtain rfl:b=bm:=by rw[f1] at r2;exact aa5 r2
 have hp:=hx.rep (h x (by simp[Op.operands]))
 generalize hr:r x=u at hp
 cases hp with
 |@ptr _ _ b' hb=>
  obtain rfl:b'=rb:=by rw[hb] at r1;exact aa5 r1
  have idx:∀ e∈es.toList,∃ i x,M[i]?=some x∧es[i]?=some e∧e.born=i∧aV g.Pr w x.1 e.key∧aV g.Pr w x.2 e.val:=by
   intro e he
   obtain⟨i,hi⟩:=adn he
   rw[aa0] at hi
   have G_:i<M.length:=au
   obtain⟨q1,q2,q3⟩:=e3 i M[i] e (aaV G_) hi
   exact au
  have hold:∀ x∈es.toList,x.born<M.length:=au
  rcases run_next_at (P:=P) w ty b' b M.length M.length S.toArray es M.length r3 e1 hold (aaZ _) with ⟨l0,dz⟩|⟨e,he,w1,hw1,dz⟩
  ·unfold aO
   simp[execOp,hr,dz]
   refine⟨g,_,H,.inl ⟨rfl,rfl,fun i hi=>?_⟩,hw,.refl _ _,.gd rfl (fun k y v hy hv=>?_)⟩
   ·have im:i<es.size:=by omega
    have hq:=(e3 i M[i] es[i] (aaV hi) (by simp[im])).1
    have hl:leftOf es S.toArray=#[]:=Array.eq_empty_of_size_eq_zero l0
    unfold leftOf at hl
    rw[Array.filter_eq_empty_iff] at hl
    exact au
   ·match k,hy,hv with
    |0,hy,hv=>simp at hy hv;subst hy;subst hv;exact .d (.bool _)
    |k+1,hy,_=>simp at hy
  ·have mG:e∈es.toList∧¬S.toArray.contains e.born=true:=by
    unfold leftOf at he
    exact au
   obtain⟨i,x,k1,k2,k3,k4,k5⟩:=idx e mG.1
   have Yk:i∉S:=au
   have hww:aQ g w1 H∧cG g w g w1:=by
    rcases hw1 with rfl|rfl
    ·exact⟨hw,.refl _ _⟩
    ·exact hw.drew
   have r3':w1.heap[b']?=some (.mapIter (some b) M.length S.toArray M.length):=by rcases hw1 with rfl|rfl<;>exact r3
   have Ly:b'<w1.heap.size:=(abd.1 r3').1
   obtain⟨j1,j2⟩:=hww.1.AN (x1:=Fh mid M.length (S++[i])) (w':=ChangeMaps.setBlock w1 b' (.mapIter (some b) M.length (S.toArray.push e.born) M.length)) hH hb ⟨rfl,rfl,rfl⟩ (by simp[ChangeMaps.setBlock]) (fun b2 aR=>by
    show(w1.heap.setIfInBounds b' _)[b2]?=_
    rw[abD (acN aR)]) (fun _=>⟨b,f1,by
     show(w1.heap.setIfInBounds b' _)[b']?=_
     rw[aer Ly,k3];simp⟩)
   have bK:=hww.2.trans j2
   unfold aO
   simp only[execOp,hr,abl,dz,aa3,abu]
   refine⟨g,_,_,.inr ⟨i,x,k1,Yk,rfl,rfl⟩,j1,bK,.gd rfl (fun k y v hy hv=>?_)⟩
   match k,hy,hv with
   |0,hy,hv=>simp at hy hv;subst hy;subst hv;exact .d (.bool _)
   |1,hy,hv=>simp at hy hv;subst hy;subst hv;exact .d (k4.mono bK.pr)
   |2,hy,hv=>simp at hy hv;subst hy;subst hv;exact .d (k5.mono bK.pr)
   |k+3,hy,_=>simp at hy
end
def left{α:Type}(l:List α)(S:List Nat):List Nat→List α:=fun I=>I.filterMap fun i=>if i∈S then none else l[i]?
theorem CN{α:Type}{l:List α}{S:List Nat}{i:Nat}{e:α}(he:l[i]?=some e)(hi:i∉S):∀ {I:List Nat},I.Nodup→i∈I→(e::left l (S++[i]) I).Perm (left l S I)
 |[],_,h=>by cases h
 |a::I,hn,h=>by
  rw[aek] at hn
  unfold left
  by_cases Yl:a=i
  ·subst Yl
   rw[acZ,acZ,aa2 (by simp),aa7 hi,he]
   refine List.Perm.cons _ ?_
   have:∀ J:List Nat,a∉J→List.filterMap (fun k=>if k∈S++[a] then none else l[k]?) J=List.filterMap (fun k=>if k∈S then none else l[k]?) J:=by
    intro J
    induction J with
    |nil=>intro _;rfl
    |cons k J ih=>
     intro hk
     simp only[abq,not_or] at hk
     have Ym:(k∈S++[a])↔k∈S:=au
     rw[acZ,acZ,ih hk.2]
     simp only[Ym]
   rw[this I hn.1]
  ·have hm:i∈I:=by rcases abq.1 h with h|h;exact absurd h.symm Yl;exact h
   have ih:=CN he hi hn.2 hm
   unfold left at ih
   rw[acZ,acZ]
   by_cases haS:a∈S
   ·exact au
   ·rw[aa7 (by simp[haS,Yl]),aa7 haS]
    cases UB:l[a]? with
    |none=>exact ih
    |some x=>exact(List.Perm.swap _ _ _).trans (ih.cons _)
theorem Kf{α:Type}{l:List α}{S:List Nat}(h:∀ i,i<l.length→i∈S):left l S (List.range l.length)=[]:=by
 unfold left
 exact au
theorem Mb{α:Type}{l:List α}:left l [] (List.range l.length)=l:=by
 unfold left
 simp only[ac2,abb]
 apply ab6
 intro k
 have key:∀ (n:Nat),n≤l.length→(List.range n).filterMap (fun i=>l[i]?)=l.take n:=by
  intro n
  induction n with
  |zero=>intro _;simp
  |succ n ih=>
   intro h
   rw[List.range_succ,List.filterMap_append,ih (by omega),acD]
   simp[aaV (show n<l.length by omega)]
 exact au
theorem AW.Vl{F:FC}{Q:Exit→St→Prop}{σ τ α:Type}{body:Code}{E:Nat→V}{H:List HE}(n0:Nat)(aY:List Nat)(m:σ→List (Nat×V))(K:σ→OB→List HE)
  {f:σ→α→Option (σ⊕τ)}{fin:σ→τ}{fx:α→D×D}{l:List α}{s0:σ}{t:τ}{rg dn dk it B mid rid:Nat}{ty1 ty2:TypeId}{p1 p2:String}{a1 a2:Array Edge}
  (hr:uU f fin s0 l=some t)(hg:∀ id,n0≤id→F.g0.σ id=none∧F.g0.τ id=none)(h0:nZ n0 E aY (m s0) (K s0 (Fh mid l.length [])) ⟨E,H⟩)
  (Ph:∀ s,Ab.head aY E (m s) it=.ptr rid 0)(hK1:∀ s x,(K s x)[rid]?=some (.ob x))(hK2:∀ s x,(K s x)[mid]?=some (.ob (oY (l.map fx))))(DR:∀ s x y,(K s x).set rid (.ob y)=K s y)
  (UE:vU (some dn) F.n=true)(Rs:vU (some dk) F.n=true)
  (step:∀ (inv:σ→Prop) (s:σ) (e:α) (S:List Nat) (i:Nat) (y:σ⊕τ),l[i]?=some e→f s e=some y→(match y with|.inl s'=>inv s'|.inr v=>some v=some t)→
   AW F body (oT (fun st=>∃ s',inv s'∧nZ n0 E aY (m s') (K s' (Fh mid l.length (S++[i]))) st) Q) ⟨Hc (Hc (Ab.head aY E (m s)) dn (.gd [.d (.bool true),.d (fx e).1,.d (fx e).2])) dk (.d (.bool true)),K s (Fh mid l.length (S++[i]))⟩)
  (done:∀ (s:σ) (S:List Nat),some (fin s)=some t→Q (.exit B) ⟨Hc (Hc (Ab.head aY E (m s)) dn (.gd [.d (.bool false)])) dk (.d (.bool false)),K s (Fh mid l.length S)⟩):
  AW F (.loop (.seq (.region rg #[⟨some dn,.next (.tmp it) false,ty1,p1,a1,none⟩,⟨some dk,.extract (.tmp dn) 0,ty2,p2,a2,none⟩] false) (.seq (.cond (.tmp dk) .skip (.exit B)) body))) Q ⟨E,H⟩:=by
 have hML:(l.map fx).length=l.length:=by simp
 refine AW.loop (α:=List Nat×σ) (fun x=>∀ p:List α,p.Perm (left l x.1 (List.range l.length))→rU f fin x.2 p=some t) (fun x=>⟨Ab.head aY E (m x.2),K x.2 (Fh mid l.length x.1)⟩) (fun x=>(left l x.1 (List.range l.length)).length) ([],s0) ?_ (fun _ _ hs=>pg hg hs h0) ?_
 ·intro p hp
  dsimp only at hp
  rw[Mb] at hp
  exact Hr hr p hp
 rintro⟨S,s⟩ hI
 dsimp only at hI
 refine AW.kz ?_
 refine AL.Vk UE (Hs (mid:=mid) (rid:=rid) (M:=l.map fx) (S:=S) (.e (Ph s)) (by rw[hML];exact hK1 s _) (hK2 s _)) ?_
 rintro v H' (⟨rfl,rfl,wy⟩|⟨i,e',qj,Yk,rfl,rfl⟩)
 ·refine AL.s (v:=.d (.bool false)) (H':=K s (Fh mid l.length S)) Rs (my (l:=[.d (.bool false)]) (.e (mP _ _ _)) rfl) ?_
  refine AL.nil ?_
  refine AW.seq ?_
  refine AW.cond (b:=false) (mP _ _ _) (fun h=>by cases h) (fun _=>?_)
  refine AW.exit ?_
  refine zQ ?_
  refine zQ ?_
  refine done s S ?_
  have:=hI [] (by rw[Kf (fun i hi=>wy i (by simpa using hi))])
  exact this
 ·rw[hML,DR]
  refine AL.s (v:=.d (.bool true)) (H':=K s (Fh mid l.length (S++[i]))) Rs (my (l:=[.d (.bool true),.d e'.1,.d e'.2]) (.e (mP _ _ _)) rfl) ?_
  refine AL.nil ?_
  refine AW.seq ?_
  refine AW.cond (b:=true) (mP _ _ _) (fun _=>?_) (fun h=>by cases h)
  refine AW.skip ?_
  refine nq ?_
  obtain⟨e,he,rfl⟩:∃ e,l[i]?=some e∧e'=fx e:=by
   exact au
  have hi:i∈List.range l.length:=ach.2 (aaS.1 he).1
  have Rt:=CN he Yk List.nodup_range hi
  have Mc:∀ p:List α,p.Perm (left l (S++[i]) (List.range l.length))→(f s e).bind (fun r=>match r with|.inl s'=>rU f fin s' p|.inr t=>some t)=some t:=fun p hp=>hI (e::p) ((hp.cons e).trans Rt)
  obtain⟨y,hy⟩:∃ y,f s e=some y:=by
   have:=Mc _ (aev _)
   cases hfe:f s e with
   |none=>rw[hfe] at this;cases this
   |some y=>exact⟨y,rfl⟩
  have Md:∀ p:List α,p.Perm (left l (S++[i]) (List.range l.length))→Sum.elim (fun s'=>rU f fin s' p) some y=some t:=fun p hp=>by
   exact au
  refine(step (fun s'=>∀ p:List α,p.Perm (left l (S++[i]) (List.range l.length))→rU f fin s' p=some t) s e S i y he hy ?_).mono ?_
  ·cases y with
   |inl s'=>exact Md
   |inr v=>exact Md _ (aev _)
  ·intro ex st hq
   cases ex with
   |normal=>
    obtain⟨s',h1,h2⟩:=hq
    refine⟨(S++[i],s'),h1,?_,fun a w hs=>pg hg hs h2⟩
    have:=Rt.length_eq
    simp only[abp] at this
    show(left l (S++[i]) (List.range l.length)).length<(left l S (List.range l.length)).length
    omega
   |_=>exact hq
def UG(s:List UInt8)(pos:Nat):Bool×Int×Int×Nat:=
 if pos<s.length then (true,(pos:Int),((Utf8.decode ⟨s.toArray⟩ pos).1:Int),pos+(Utf8.decode ⟨s.toArray⟩ pos).2) else (false,0,0,pos)
def Vm(r:Bool×Int×Int×Nat):V:=if r.1=true then .gd [.d (.bool true),.d (.int .i64 r.2.1),.d (.int .i32 r.2.2.1)] else .gd [.d (.bool false)]
def OQ(s:List UInt8)(pos:Nat):OB where
 φ:=fun _ w _ r=>w.heap[r]?=some (.stringIter ⟨s.toArray⟩ pos)
 st:=fun _ _ _ hb _ h=>hb.trans h
 fr:=true
 JV:=fun _ {g g' w i j b} _ _ _ h=>h
theorem SH{T:List Nat}{s:List UInt8}{pos:Nat}:LW T (OQ s pos) (OQ s pos):=fun _ h=>h
section
variable {P:Program}{ρ:Operand→V}{H:List HE}{ty:TypeId}
theorem yV{x:Operand}{t:TypeId}{n:Nat}{s:List UInt8}(ht:P.underlying t=some .string)(hx:As (ρ x) (.str s))(hn:H.length=n):bj P (.range t x) ty ρ H (.ptr n 0) (H++[.ob (OQ s 0)]):=by
 subst hn
 intro g w r pos after guard dst hw h
 have hr:=hx.str (h x (by simp[Op.operands]))
 obtain⟨g',h1,h2,h3⟩:=hw.il.L_ (id:=H.length) (x0:=OQ s 0) (o0:=.stringIter ⟨s.toArray⟩ 0) (by simp) (fun g' w' he hh=>hh)
 rw[mO] at h1
 unfold aO
 simp[execOp,hr,Instr.range,aaX ht,Result.andThen]
 exact⟨g',h1,h2,.ptr h3⟩
theorem AQ{x:Operand}{rid pos:Nat}{s:List UInt8}{r:Bool×Int×Int×Nat}(hx:Is (ρ x) (.ptr rid 0))(hH:H[rid]?=some (.ob (OQ s pos)))(hv:some (UG s pos)=some r):
  bj P (.next x true) ty ρ H (Vm r) (H.set rid (.ob (OQ s r.2.2.2))):=by
 injection hv with hv
 intro g w r' pos' after guard dst hw h
 obtain⟨rb,r1,r3,_⟩:=hw.ob rid _ hH
 have r3:w.heap[rb]?=some (.stringIter ⟨s.toArray⟩ pos):=r3
 have hp:=hx.rep (h x (by simp[Op.operands]))
 generalize hr:r' x=u at hp
 cases hp with
 |@ptr _ _ b' hb=>
  obtain rfl:b'=rb:=by rw[hb] at r1;exact aa5 r1
  have Ly:b'<w.heap.size:=(abd.1 r3).1
  have dE:(⟨s.toArray⟩:ByteArray).size=s.length:=tB s
  have ax:(getObj b').run P w=.ok (.stringIter ⟨s.toArray⟩ pos) w:=by simp[getObj,Sem.run,r3]
  by_cases aN:pos<s.length
  ·have L9:r=(true,(pos:Int),((Utf8.decode ⟨s.toArray⟩ pos).1:Int),pos+(Utf8.decode ⟨s.toArray⟩ pos).2):=by rw[←hv];unfold UG;rw[aa2 aN]
   subst L9
   obtain⟨j1,j2⟩:=hw.AN (x1:=OQ s (pos+(Utf8.decode ⟨s.toArray⟩ pos).2)) (w':=ChangeMaps.setBlock w b' (.stringIter ⟨s.toArray⟩ (pos+(Utf8.decode ⟨s.toArray⟩ pos).2))) hH hb ⟨rfl,rfl,rfl⟩ (by simp[ChangeMaps.setBlock]) (fun b2 aR=>by
    show(w.heap.setIfInBounds b' _)[b2]?=_
    rw[abD (acN aR)]) (fun _=>by
     show(w.heap.setIfInBounds b' _)[b']?=_
     rw[aer Ly])
   have DR:(setObj b' (.stringIter ⟨s.toArray⟩ (pos+(Utf8.decode ⟨s.toArray⟩ pos).2))).run P w=.ok () (ChangeMaps.setBlock w b' (.stringIter ⟨s.toArray⟩ (pos+(Utf8.decode ⟨s.toArray⟩ pos).2))):=by
    simp[setObj,Sem.run,r3,ChangeMaps.setBlock]
   unfold aO
   simp[execOp,hr,Instr.next,ax,Result.andThen,dE,aN,DR,goInt]
   refine⟨g,j1,j2,?_⟩
   unfold Vm
   rw[aa2 rfl]
   refine .gd rfl (fun k y v hy hv=>?_)
   match k,hy,hv with
   |0,hy,hv=>simp at hy hv;subst hy;subst hv;exact .d (.bool _)
   |1,hy,hv=>simp at hy hv;subst hy;subst hv;exact .d (.int _ _)
   |2,hy,hv=>simp at hy hv;subst hy;subst hv;exact .d (.int _ _)
   |k+3,hy,_=>simp at hy
  ·have L9:r=(false,0,0,pos):=by rw[←hv];unfold UG;rw[aa7 aN]
   subst L9
   have n4:H.set rid (.ob (OQ s pos))=H:=by
    apply ab6
    exact au
   unfold aO
   simp[execOp,hr,Instr.next,ax,Result.andThen,dE,aN]
   refine⟨g,by rw[n4];exact hw,.refl _ _,?_⟩
   unfold Vm
   rw[aa7 (by simp)]
   refine .gd rfl (fun k y v hy hv=>?_)
   match k,hy,hv with
   |0,hy,hv=>simp at hy hv;subst hy;subst hv;exact .d (.bool _)
   |k+1,hy,_=>simp at hy
theorem PA{x:Operand}{r:Bool×Int×Int×Nat}(hx:Is (ρ x) (Vm r)):bj P (.extract x 0) ty ρ H (.d (.bool r.1)) H:=by
 obtain⟨b,i,c,p⟩:=r
 cases b with
 |true=>exact my (l:=[.d (.bool true),.d (.int .i64 i),.d (.int .i32 c)]) hx rfl
 |false=>exact my (l:=[.d (.bool false)]) hx rfl
theorem IT{x:Operand}{r:Bool×Int×Int×Nat}(h:r.1=true)(hx:Is (ρ x) (Vm r)):bj P (.extract x 2) ty ρ H (.d (.int .i32 r.2.2.1)) H:=by
 obtain⟨b,i,c,p⟩:=r
 cases h
 exact my (l:=[.d (.bool true),.d (.int .i64 i),.d (.int .i32 c)]) hx rfl
end
end Go.Proofs.YtjdnbobilgamdaaGreatDoor.Ab
end
section
namespace Go.Proofs.YtjdnbobilgamdaaGreatDoor.Ab
open Go Go.RowKit
section
variable {P:Program}{ρ:Operand→V}{H:List HE}{ty:TypeId}
theorem Me{x:Operand}{id:Nat}(h:Is (ρ x) (.mp id)):bj P (.move x) ty ρ H (.mp id) H:=tC h
theorem Ht{x:Operand}{id:Nat}(h:Is (ρ x) (.mp id)):bj P (.assign x) ty ρ H (.mp id) H:=pj h
theorem DW{α:Type}{fx:α→D×D}{l:List α}{x:Operand}{t kt et:TypeId}{mid n:Nat}(ht:P.underlying t=some (.map kt et))(hx:Is (ρ x) (.mp mid))(hH:H[mid]?=some (.ob (oY (l.map fx))))(hn:H.length=n):
  bj P (.range t x) ty ρ H (.ptr n 0) (H++[.ob (Fh mid l.length [])]):=by
 have h:=Fi (P:=P) (ty:=ty) ht hx hH hn
 rwa[aa4] at h
theorem Kg{α:Type}{fx:α→D×D}{l:List α}{e:α}{x:Operand}{mid rid i:Nat}{S:List Nat}(hx:Is (ρ x) (.ptr rid 0))(hH:H[rid]?=some (.ob (Fh mid l.length (S++[i]))))(hM:H[mid]?=some (.ob (oY (l.map fx))))(he:l[i]?=some e):
  bj P (.entry x) ty ρ H (.gd [.d (fx e).1,.d (fx e).2]) H:=
 Ma (M:=l.map fx) hx (by rw[aa4];exact hH) hM (by rw[aba,he];rfl)
theorem AR{α:Type}{fx:α→D×D}{l:List α}{x:Operand}{t kt et:TypeId}{id:Nat}(ht:P.underlying t=some (.map kt et))(hx:Is (ρ x) (.mp id))(hH:H[id]?=some (.ob (oY (l.map fx)))):
  bj P (.call ⟨.builtin .len,#[x],#[t]⟩) ty ρ H (.d (.int .i64 (l.length:Int))) H:=by
 have h:=Kd (P:=P) (ty:=ty) ht hx hH
 rwa[aa4] at h
theorem nT{κ ν:Type}[DecidableEq κ]{fk:κ→D}{fv:ν→D}{kv:κ→Value}{d:TypeDesc}{x y u:Operand}{t kt et:TypeId}{id:Nat}{m r:List (κ×ν)}{k:κ}{v:ν}(hK:Fc P kt fk kv d)(ht:P.underlying t=some (.map kt et))(hx:Is (ρ x) (.mp id))(hy:As (ρ y) (fk k))(hu:As (ρ u) (fv v))
  (hH:H[id]?=some (.ob (oY (m.map fun q=>(fk q.1,fv q.2)))))(hr:some (jl m k v)=some r):bj P (.mapUpdate t x y u) ty ρ H .any (H.set id (.ob (oY (r.map fun q=>(fk q.1,fv q.2))))):=by
 obtain rfl:=aa5 hr
 exact DU hK ht hx hy hu hH
end
def lJ(X:List D)(n s:Nat)(c:List D):Prop:=(X.drop n).take s=c∧c.length=s∧n+s≤X.length
def wz(X:List D)(n s:Nat)(c X':List D):Prop:=c.length=s∧X'=X.take n++c++X.drop (n+s)
theorem lJ.root{X:List D}:lJ X 0 X.length X:=⟨by simp,rfl,by simp⟩
theorem wz.root{X X':List D}(h:X'.length=X.length):wz X 0 X.length X' X':=⟨h,by simp⟩
theorem lg{x:D}{l:List D}:D.flat (x::l)=x.cells++D.flat l:=au
theorem pZ{α:Type}{f:α→D}{s:Nat}(hf:En f s):∀ {l:List α} {i:Nat} {y:α},l[i]?=some y→((D.flat (l.map f)).drop (i*s)).take s=(f y).cells∧i*s+s≤(D.flat (l.map f)).length
 |a::l,0,y,h=>by
  simp only[aa',aaW] at h
  subst h
  have:=hf.sz a
  rw[abP,lg,aei,acP]
  exact au
 |a::l,i+1,y,h=>by
  have ih:=pZ hf (l:=l) (i:=i) (y:=y) (by simpa using h)
  rw[abP,lg]
  have hs:=hf.sz a
  have e:(i+1)*s=(f a).cells.length+i*s:=au
  rw[e,←List.drop_drop,aeu]
  exact au
theorem AS{α:Type}{f:α→D}{s:Nat}(hf:En f s):∀ {l:List α} {i:Nat} {y:α},i<l.length→D.flat ((l.set i y).map f)=(D.flat (l.map f)).take (i*s)++(f y).cells++(D.flat (l.map f)).drop (i*s+s)
 |a::l,0,y,_=>by
  have:=hf.sz a
  rw[List.set_cons_zero,abP,abP,lg,lg,aei,List.take_zero,abY,acU,←this,aeu]
 |a::l,i+1,y,h=>by
  have G_:i<l.length:=au
  have ih:=AS hf (l:=l) (i:=i) (y:=y) G_
  have hs:=hf.sz a
  rw[List.set_cons_succ,abP,abP,lg,lg,ih]
  have e:(i+1)*s=(f a).cells.length+i*s:=au
  have t1:∀ (L:List D) (k:Nat),((f a).cells++L).take ((f a).cells.length+k)=(f a).cells++L.take k:=fun L k=>by rw[List.take_append,acH (Nat.le_add_right _ _),aec]
  have t2:∀ (L:List D) (k:Nat),((f a).cells++L).drop ((f a).cells.length+k)=L.drop k:=fun L k=>by rw[←List.drop_drop,aeu]
  exact au
theorem lJ.ix{α:Type}{f:α→D}{X:List D}{n m s:Nat}{l:List α}{k:Int}{y:α}(hf:En f s)(h:lJ X n m (D.flat (l.map f)))(hv:ix l k=some y):lJ X (n+k.toNat*s) s (f y).cells:=by
 obtain⟨h0,h1,h2⟩:=Hq hv
 obtain⟨k1,k2⟩:=pZ hf h1
 obtain⟨q1,q2,q3⟩:=h
 rw[q2] at k2
 refine⟨?_,hf.sz y,by omega⟩
 rw[←k1,←q1,←List.drop_drop,List.drop_take,aet,acr (by omega)]
theorem wz.ix{α:Type}{f:α→D}{X X':List D}{n m s:Nat}{l l':List α}{k:Int}{y:α}(hf:En f s)(h:lJ X n m (D.flat (l.map f)))(hp:wz X n m (D.flat (l'.map f)) X')(hv:ku l k y=some l'):wz X (n+k.toNat*s) s (f y).cells X':=by
 unfold ku at hv
 split at hv
 ·rename_i hh
  injection hv with hv;subst hv
  obtain⟨_,hx⟩:=hp
  obtain⟨q1,q2,q3⟩:=h
  refine⟨hf.sz y,?_⟩
  have hlen:k.toNat*s+s≤m:=by
   rw[←q2]
   exact(pZ hf (aaV hh.2)).2
  rw[hx,AS hf hh.2,←q1]
  have e1:X.take (n+k.toNat*s)=X.take n++((X.drop n).take m).take (k.toNat*s):=au
  have e2:X.drop (n+k.toNat*s+s)=((X.drop n).take m).drop (k.toNat*s+s)++X.drop (n+m):=by
   rw[List.drop_take,adp,←Nat.add_assoc]
   conv=>lhs;rw[←List.take_append_drop (m-(k.toNat*s+s)) (X.drop (n+k.toNat*s+s))]
   rw[adp]
   congr 2;omega
  exact au
 ·cases hv
section
variable {P:Program}{ρ:Operand→V}{H:List HE}{ty:TypeId}
theorem df{α:Type}{l:List α}{v:α}{x y:Operand}{t n e s id off:Nat}{k:IntKind}{a:Int}(hx:Is (ρ x) (.ptr id off))(hy:As (ρ y) (.int k a))(hv:ix l a=some v)(hl:l.length=n)(hu:P.underlying t=some (.array n e))(hi:∃ i,P.info? e=some i∧i.size=s):
  bj P (.indexAddr t x y) ty ρ H (.ptr id (off+a.toNat*s)) H:=xI hx hy hv hl hu hi
theorem kG{x:Operand}{t id n:Nat}{X:List D}{y:D}(hx:Is (ρ x) (.ptr id n))(hH:H[id]?=some (.row (X.map .d)))(ha:lJ X n 1 [y])(ht:Sc P t):bj P (.load t x) ty ρ H (.d y) H:=by
 refine bo hx hH ?_ ht
 obtain⟨h1,_,_⟩:=ha
 have:((X.drop n).take 1)[0]?=some y:=by rw[h1];rfl
 exact au
theorem uV{x:Operand}{t id n s:Nat}{X c:List D}(hx:Is (ρ x) (.ptr id n))(hH:H[id]?=some (.row (X.map .d)))(ha:lJ X n s c)(ht:Ag P t s):bj P (.load t x) ty ρ H (.d (.agg c)) H:=by
 obtain⟨h1,h2,_⟩:=ha
 have h:=wA (P:=P) (ty:=ty) (n:=s) (cs:=c.map .d) hx hH (by rw[←List.map_drop,←List.map_take,h1]) (by simpa using h2) ht
 refine h.zP ?_
 have key:∀ l:List D,rp ((l.map V.d).map V.Cf)=some l:=by
  intro l
  induction l with
  |nil=>rfl
  |cons a l ih=>simp only[abP,rp,V.Cf,ih,abN]
 simp only[V.zP,V.Fj,key]
 rfl
theorem AT{x y:Operand}{t id n s:Nat}{X X' c c0:List D}{u:V}(hx:Is (ρ x) (.ptr id n))(hy:Is (ρ y) u)(hH:H[id]?=some (.row (X.map .d)))(ha:lJ X n s c0)(hp:wz X n s c X')(hv:u.cs=c.map V.d)(h1:(c.map V.d).all V.one=true)(dE:∃ i,P.info? t=some i∧i.size=s):
  bj P (.store t x y) ty ρ H .any (H.set id (.row (X'.map .d))):=by
 obtain⟨p1,p2⟩:=hp
 obtain⟨_,_,a3⟩:=ha
 have h:=se (P:=P) (ty:=ty) (n:=s) hx hy hH hv h1 dE (by simpa using p1) (by simpa using a3)
 rw[fT] at h
 rw[p2]
 simpa[←List.map_take,←List.map_drop,p1] using h
end
theorem aQ.qE{g:G}{w:World}{H:List HE}{id:Nat}{c:List D}(hw:aQ g w H)(hH:H[id]?=some (.row (c.map .d))):
  ∃ g',aQ g' w (H.set id .dead)∧cG g w g' w∧(∀ i,g'.σ i=g.σ i)∧(∀ b,g.σ id=some b→∃ f:Nat→Value,(∀ k,k<c.length→g'.Pr b (0+k)∧w.cell? ⟨b,0+k,none⟩=some (f k))∧(∀ (k:Nat) x,c[k]?=some x→aV g'.Pr w x (f k))):=by
 have eC:id<H.length:=(aaS.1 hH).1
 obtain⟨b0,arr,et,f1,f2,f3,f4,f5⟩:=hw.row id _ hH
 let g':G:={σ:=g.σ,τ:=g.τ,υ:=g.υ,X:=g.X,Pr:=fun b o=>g.Pr b o∨(b=b0∧o<c.length)}
 have hX0:g.X b0:=hw.aD id _ b0 hH f1
 have bK:cG g w g' w:={
  same:=⟨rfl,rfl,rfl⟩
  size:=aaZ _
  pr:=fun b o hp=>⟨.inl hp,rfl⟩
  pK:=fun b o h=>by
   exact au
  x:=fun b h=>.inl h
  aY:=fun b _ _=>rfl
  σ:=fun _ _ h=>h
  τ:=fun _ m a cap h=>⟨m,a,cap,h,.inr ⟨rfl,rfl,rfl⟩⟩}
 have ax:∀ (i:Nat) e,(H.set id .dead)[i]?=some e→(i=id∧e=.dead)∨(i≠id∧H[i]?=some e):=au
 have aR:∀ (i:Nat) x b,i≠id→H[i]?=some x→g.aD i x b→b≠b0:=fun i x b hi hx hb hc=>hi (hw.sep i id _ _ b hx hH hb (by rw[hc];exact f1))
 refine⟨g',⟨?_,hw.xs,?_,?_,?_,?_,?_,?_,?_,hw.Ca bK⟩,bK,fun _=>rfl,?_⟩
 ·intro b o h
  rcases h with h|⟨rfl,_⟩
  ·exact hw.pr b o h
  ·exact hw.xs b hX0
 ·intro i x b he hb
  rcases ax i x he with ⟨rfl,rfl⟩|⟨hi,h⟩
  ·simp[G.aD] at hb
  ·exact hw.aD i x b h (by cases x<;>exact hb)
 ·intro i i' x x' b he qj hb dD
  rcases ax i x he with ⟨rfl,rfl⟩|⟨hi,h⟩
  ·simp[G.aD] at hb
  ·rcases ax i' x' qj with ⟨rfl,rfl⟩|⟨uC,h'⟩
   ·simp[G.aD] at dD
   ·exact hw.sep i i' x x' b h h' (by cases x<;>exact hb) (by cases x'<;>exact dD)
 ·intro i d he
  rcases ax i _ he with ⟨_,h⟩|⟨hi,h⟩
  ·cases h
  ·obtain⟨b1,dx,sj,g1,g2,g3,g4,g5⟩:=hw.row i d h
   refine⟨b1,dx,sj,g1,g2,g3,fun k x v hx hv=>(g4 k x v hx hv).mono bK,fun o hp=>?_⟩
   rcases hp with hp|⟨hp,_⟩
   ·exact g5 o hp
   ·exact aR i _ b1 hi h g1 hp
 ·intro i n e1 s1 he
  rcases ax i _ he with ⟨_,h⟩|⟨hi,h⟩
  ·cases h
  ·obtain⟨a,cap,g1,g2,g3,g4⟩:=hw.tok i n e1 s1 h
   refine⟨a,cap,g1,g2,g3,fun aN=>?_⟩
   obtain⟨b1,dx,k1,k2,k3,k4⟩:=g4 aN
   refine⟨b1,dx,k1,k2,k3,fun o hp=>?_⟩
   rcases hp with hp|⟨hp,_⟩
   ·exact k4 o hp
   ·exact absurd hp (aR i _ b1 hi h (by simp[G.aD,g1,aN,k1]))
 ·intro i l1 e1 s1 he
  rcases ax i _ he with ⟨_,h⟩|⟨hi,h⟩
  ·cases h
  ·obtain⟨a,cap,g1,g2,g3,g4⟩:=hw.bn i l1 e1 s1 h
   refine⟨a,cap,g1,g2,g3,fun aN=>?_⟩
   obtain⟨b1,dx,k1,k0,k2,k3,k4,k5⟩:=g4 aN
   refine⟨b1,dx,k1,k0,k2,k3,fun o hp=>?_,fun k x v hx hv=>(k5 k x v hx hv).mono bK.pr⟩
   rcases hp with hp|⟨hp,_⟩
   ·exact k4 o hp
   ·exact absurd hp (aR i _ b1 hi h (by simp[G.aD,g1,aN,k1]))
 ·intro i x he
  rcases ax i _ he with ⟨_,h⟩|⟨hi,h⟩
  ·cases h
  ·obtain⟨b1,q1,q2,q3,q4⟩:=hw.ob i x h
   refine⟨b1,q1,x.st bK.w rfl rfl rfl (fun _ _=>rfl) q2,fun o hp=>?_,fun b' o hu hp=>?_⟩
   ·rcases hp with hp|⟨hp,_⟩
    ·exact q3 o hp
    ·exact aR i _ b1 hi h (.inl q1) hp
   ·rcases hp with hp|⟨hp,_⟩
    ·exact q4 b' o hu hp
    ·exact aR i _ b' hi h (.inr hu) hp
 ·intro i hi
  have aR:i≠id:=au
  refine hw.free i ?_
  exact au
 ·intro b hb
  obtain rfl:b=b0:=by rw[hb] at f1;exact aa5 f1
  simp only[aa4] at f3
  refine⟨fun k=>(w.cell? ⟨b,k,none⟩).getD undef,fun k hk=>⟨.inr ⟨rfl,by omega⟩,?_⟩,fun k x hx=>?_⟩
  ·have zo:k<arr.size:=by omega
   simp only[abY,aL f2]
   simp[zo]
  ·have xA:k<c.length:=(aaS.1 hx).1
   have zo:arr[k]?=some arr[k]:=au
   simp only[aL f2,zo,aci]
   have:=(f4 k (.d x) arr[k] (by simp[hx]) zo).mono bK
   cases this with
   |d h=>exact h
theorem AW.qE{F:FC}{Q:Exit→St→Prop}{c:Code}{E:Nat→V}{H:List HE}{cs:List D}(id:Nat)(ts:List Nat)(hH:H[id]?=some (.row (cs.map .d)))
  (hE:AF E (.ptr id 0) ts)(h:AW F c Q ⟨DI E ts (.vp cs 0),H.set id .dead⟩):AW F c Q ⟨E,H⟩:=by
 rintro a w ⟨h1,h2,g,h3,h4,h5⟩
 obtain⟨g',w1,w2,w3,w4⟩:=h3.qE hH
 refine h a w ⟨h1,h2,g',w1,h4.trans w2,fun i=>wg ((h5 i).mono w2) (fun hr=>?_) hE⟩
 generalize a.tmps.getD i undef=r at hr
 cases hr with
 |ptr hb=>
  rw[w3] at hb
  obtain⟨f,k1,k2⟩:=w4 _ hb
  exact .vp k1 k2
section
variable {P:Program}{ρ:Operand→V}{H:List HE}{ty:TypeId}
theorem ss{α:Type}{f:α→D}{l:List α}{x:Operand}{t n e s:Nat}{X:List D}(hx:Is (ρ x) (.vp X 0))(hX:X=D.flat (l.map f))(hf:En f s)(hl:l.length=n)(hu:P.underlying t=some (.array n e))(hi:∃ i,P.info? e=some i∧i.size=s):
  bj P (.slice t x none none none) ty ρ H (.ex (l.map f)) H:=
 bj.aW fun g w r hw h=>by
  have hp:=hx.rep (h x (by simp[Op.operands]))
  generalize hr:r x=u at hp
  cases hp with
  |@vp _ _ b o fn k1 k2=>
   obtain⟨i,Xz,J7⟩:=hi
   subst hl
   have UC:X.length=l.length*s:=by
    rw[hX,dG (s:=s) (hf.Ls l),aa4]
   have Hi:aV g.Pr w (.sl (l.map f)) (.slice (some ⟨b,o+0,none⟩) l.length l.length):=by
    have key:aV g.Pr w (.sl (l.map f)) (.slice (some ⟨b,o+0,none⟩) (l.map f).length l.length):=
     .sl (l.map f) _ _ s fn (hf.Ls l) (by simp) (fun _=>⟨b,o,rfl,fun k hk=>k1 k (by rw[UC];simpa using hk)⟩) (fun k x hx=>k2 k x (by rw[hX];exact hx))
    exact au
   refine⟨.slice (some ⟨b,o+0,none⟩) l.length l.length,fun _ _ _ _=>?_,?_⟩
   ·by_cases h0:l.length=0
    ·simp[execOp,hr,Instr.sliceAt,aaX hu,Instr.sureAddr,Instr.sliceBounds,aq Xz,Result.andThen,h0]
    ·simp[execOp,hr,Instr.sliceAt,aaX hu,Instr.sureAddr,Instr.sliceBounds,aq Xz,Result.andThen,h0,Addr.aT]
   ·have:=cu.ex (l:=l.map f) (a:=some ⟨b,o+0,none⟩) (g:=g) (w:=w) (by simpa using Hi)
    simpa using this
theorem su{α:Type}{f:α→D}{y:α}{e s off:Nat}{Pr:Nat→Nat→Prop}{w:World}{X:List D}{xs:Array Value}(hX:aV Pr w (.agg X) (.agg xs))(ha:lJ X off s (f y).cells)
  (hi:(Sc P e∧∀ z,(f z).cells=[f z])∨(Ag P e s∧∀ z,f z=.agg (f z).cells)):∃ v,aV Pr w (f y) v∧∀ w',(part e xs off).run P w'=.ok v w':=by
 obtain⟨h1,h2,h3⟩:=ha
 cases hX with
 |agg _ _ k1 k2=>
  have get:∀ (i:Nat),i<s→∃ x v,(f y).cells[i]?=some x∧xs[off+i]?=some v∧aV Pr w x v:=by
   intro i hi
   obtain⟨x,hx⟩:∃ x,(f y).cells[i]?=some x:=⟨_,aaV (by omega)⟩
   have hv:xs[off+i]?=some (xs[off+i]'(by omega)):=au
   exact au
  rcases hi with ⟨hs,hz⟩|⟨hs,hz⟩
  ·obtain⟨d,hu,hd⟩:=hs.u
   have PB:s=1:=au
   subst PB
   obtain⟨x,v,g1,g2,g3⟩:=get 0 (by omega)
   rw[hz] at g1
   simp only[aa',aaW] at g1
   subst g1
   exact⟨v,g3,fun w'=>by simp at g2;simp[part,hD hu,hd,g2,Result.andThen]⟩
  ·obtain⟨d,hu,hd⟩:=hs.u
   obtain⟨i,Xz,J7⟩:=hs.i
   refine⟨.agg (xs.extract off (off+s)),?_,fun w'=>by simp[part,hD hu,hd,aq Xz,J7,Result.andThen]⟩
   rw[hz y]
   refine .agg _ _ (by simp;omega) (fun i x v hx hv=>?_)
   exact au
theorem yW{α:Type}{f:α→D}{l:List α}{v:α}{x y:Operand}{t n e s:Nat}{X:List D}{k:IntKind}{a:Int}(hx:As (ρ x) (.agg X))(hX:X=D.flat (l.map f))(hf:En f s)(hy:As (ρ y) (.int k a))(hv:ix l a=some v)(hl:l.length=n)(hu:P.underlying t=some (.array n e))
  (hi:(Sc P e∧∀ z,(f z).cells=[f z])∨(Ag P e s∧∀ z,f z=.agg (f z).cells))(dE:∃ i,P.info? e=some i∧i.size=s):bj P (.index t x y) ty ρ H (.d (f v)) H:=
 bj.aW fun g w r hw h=>by
  have CD:=hx.rep (h x (by simp[Op.operands]))
  have hyr:=hy.int (h y (by simp[Op.operands]))
  generalize hr:r x=u at CD
  have Yn:∃ xs,u=.agg xs:=by cases CD;exact⟨_,rfl⟩
  obtain⟨xs,rfl⟩:=Yn
  subst hX
  obtain⟨h0,h1,h2⟩:=Hq hv
  obtain⟨q1,q2⟩:=pZ hf h1
  obtain⟨u,g1,g2⟩:=su (P:=P) CD ⟨q1,hf.sz v,q2⟩ hi
  obtain⟨i,i1,i2⟩:=dE
  subst hl
  refine⟨u,fun _ _ _ _=>?_,.d g1⟩
  have aN:a<(l.length:Int):=by omega
  simp[execOp,hr,hyr,Instr.index,asIntOf,aaX hu,h0,aN,aq i1,i2,g2,Result.andThen]
theorem Kh{α:Type}{f:α→D}{l r:List α}{x a c:Operand}{t e s bytes:Nat}{hi:Int}{k k':IntKind}(hx:As (ρ x) (.sl (l.map f)))(ht:pt P t e s bytes)(ha:As (ρ a) (.int k hi))(hc:As (ρ c) (.int k' hi))(hv:oR l 0 hi=some r):
  bj P (.slice t x none (some a) (some c)) ty ρ H (.ex (r.map f)) H:=
 bj.aW fun g w rr hw h=>by
  have CD:=hx.rep (h x (by simp[Op.operands]))
  have har:=ha.int (h a (by simp[Op.operands]))
  have Ru:=hc.int (h c (by simp[Op.operands]))
  obtain⟨ad,cap,e1,e2⟩:=kE CD
  rw[e1] at CD
  simp only[aa4] at e1 e2
  unfold oR at hv
  split at hv
  ·rename_i hh
   injection hv with hv;subst hv
   obtain⟨ie,z,im,dE,_⟩:=ht.i
   obtain⟨n,rfl⟩:∃ n:Nat,hi=(n:Int):=⟨hi.toNat,by omega⟩
   have hn:n≤l.length:=by omega
   have yO:∀ k y c,n≤y→(Instr.sliceBound (.int k (n:Int)) y c).run P w=.ok n w:=fun k y c hy=>by
    simp[Instr.sliceBound,asIntOf,show((n:Int)≤(y:Int)) by omega]
   have gM:aV g.Pr w (.sl ((l.take n).map f)) (.slice ad n n):=by
    have hlen:((l.take n).map f).length=n:=au
    cases CD with
    |sl _ _ _ s' fn q1 q2 q3 q4=>
     have key:aV g.Pr w (.sl ((l.take n).map f)) (.slice ad ((l.take n).map f).length n):=by
      refine .sl _ ad n s' fn (fun x hx=>q1 x ?_) (by rw[hlen];exact aaZ _) (fun aR=>?_) (fun i x hx=>q4 i x ?_)
      ·exact au
      ·have mN:l.map f≠[]:=fun h0=>aR (by rw[List.map_take,h0,List.take_nil])
       obtain⟨b,o,rfl,h5⟩:=q3 mN
       exact⟨b,o,rfl,fun j hj=>h5 j (aa_ hj (abg _ (by rw[hlen,aa4];omega)))⟩
      ·have e:l.map f=(l.take n).map f++(l.drop n).map f:=by rw[←List.map_append,acL]
       rw[e]
       have:D.flat ((l.take n).map f++(l.drop n).map f)=D.flat ((l.take n).map f)++D.flat ((l.drop n).map f):=by simp only[D.flat,adR]
       exact au
     rwa[hlen] at key
   have e0:(l.take (n:Int).toNat).drop (0:Int).toNat=l.take n:=by simp
   rw[e0]
   have hlen:((l.take n).map f).length=n:=au
   refine⟨.slice (if n=0 then ad else ad.map (·.add (0*ie.size))) n n,fun _ _ _ _=>?_,?_⟩
   ·simp[execOp,Instr.sliceAt,Instr.slice,Instr.sliceBounds,aaX ht.u,e1,har,Ru,yO _ cap _ (by omega),yO _ n _ (aaZ _),aq im,Result.andThen]
   ·have hid:(if n=0 then ad else ad.map (·.add (0*ie.size)))=ad:=by
     split
     ·rfl
     ·cases ad with
      |none=>rfl
      |some a=>obtain⟨b,o,q⟩:=a;simp[Addr.add]
    rw[hid]
    have:=cu.ex (g:=g) (w:=w) (l:=(l.take n).map f) (a:=ad) (by rw[hlen];exact gM)
    rwa[hlen] at this
  ·cases hv
theorem IU{k:IntKind}{a b c:Int}{x y z:Operand}{tx ty' tz:TypeId}(hx:As (ρ x) (.int k a))(hy:As (ρ y) (.int k b))(hz:As (ρ z) (.int k c)):bj P (.call ⟨.builtin .min,#[x,y,z],#[tx,ty',tz]⟩) ty ρ H (.d (.int k (min (min a b) c))) H:=
 bj.aW fun g w r hw h=>⟨.int k (min (min a b) c),fun _ _ _ _=>by
  simp[execOp,resolve,invoke,builtin,Builtin.min_,Builtin.min2,hx.int (h x (by simp[Op.operands,Call.operands])),hy.int (h y (by simp[Op.operands,Call.operands])),hz.int (h z (by simp[Op.operands,Call.operands]))]
  repeat' split
  all_goals (first|omega|simp[Result.andThen];omega),.d (.int _ _)⟩
end
theorem aQ.below{g:G}{w w':World}{H:List HE}(hw:aQ g w H)(hb:Below w.heap.size w w'):aQ g w' H∧cG g w g w':=by
 have kD:∀ b o,b<w.heap.size→w'.cell? ⟨b,o,none⟩=w.cell? ⟨b,o,none⟩:=fun b o h=>hb.cell (p:=⟨b,o,none⟩) h
 have bK:cG g w g w':={
  same:=⟨hb.os,hb.tape,hb.output⟩
  size:=hb.size
  pr:=fun b o h=>⟨h,kD b o (hw.pr b o h)⟩
  pK:=fun b o h=>.inl h
  x:=fun b h=>.inl h
  aY:=fun b h _=>hb.block b h
  σ:=fun _ _ h=>h
  τ:=fun _ m a cap h=>⟨m,a,cap,h,.inr ⟨rfl,rfl,rfl⟩⟩}
 refine⟨⟨fun b o h=>aa_ (hw.pr b o h) hb.size,fun b h=>aa_ (hw.xs b h) hb.size,hw.aD,hw.sep,fun id c hc=>?_,fun id n e s hc=>?_,fun id l e s hc=>?_,fun id x hc=>?_,hw.free,hw.Ca bK⟩,bK⟩
 ·obtain⟨b,arr,et,e1,e2,e3,e4,e5⟩:=hw.row id c hc
  exact⟨b,arr,et,e1,(hb.block b (hw.xs b (hw.aD id _ b hc e1))).trans e2,e3,fun k x v hx hv=>(e4 k x v hx hv).mono bK,e5⟩
 ·obtain⟨a,cap,k1,k2,k3,k4⟩:=hw.tok id n e s hc
  refine⟨a,cap,k1,k2,k3,fun aN=>?_⟩
  obtain⟨b,arr,q1,q2,q3,q4⟩:=k4 aN
  exact⟨b,arr,q1,(hb.block b (hw.xs b (hw.aD id _ b hc (by simp[G.aD,k1,aN,q1])))).trans q2,q3,q4⟩
 ·obtain⟨a,cap,k1,k2,k3,k4⟩:=hw.bn id l e s hc
  refine⟨a,cap,k1,k2,k3,fun aN=>?_⟩
  obtain⟨b,arr,q1,q0,q2,q3,q4,q5⟩:=k4 aN
  exact⟨b,arr,q1,q0,(hb.block b (hw.xs b (hw.aD id _ b hc (by simp[G.aD,k1,aN,q1])))).trans q2,q3,q4,fun k x v hx hv=>(q5 k x v hx hv).mono bK.pr⟩
 ·obtain⟨b,q1,q2,q3,q4⟩:=hw.ob id x hc
  exact⟨b,q1,x.st bK.w rfl rfl (hb.block b (hw.xs b (hw.aD id _ b hc (.inl q1)))) (fun b' hu=>hb.block b' (hw.xs b' (hw.aD id _ b' hc (.inr hu)))) q2,q3,q4⟩
theorem Fn.Mf{P:Program}{f:FuncId}{args:List D}{res:D}(h:∀ g w vals,aQ g w []→vals.size=args.length→(∀ (i:Nat) x v,args[i]?=some x→vals[i]?=some v→aV g.Pr w x v)→
  Calls P f vals w fun e w'=>∃ rv,e=.returned rv∧Below w.heap.size w w'∧aV g.Pr w' res rv):Fn P f args res:=by
 intro g w vals hw hs ha
 refine(h g w vals hw (by simpa using hs) (fun i x v hx hv=>?_)).mono ?_
 ·have:=ha i (.d x) v (by simp[hx]) hv
  cases this with
  |d h=>exact h
 ·rintro e w' ⟨rv,rfl,hb,hr⟩
  obtain⟨w1,w2⟩:=hw.below hb
  exact⟨rv,.d res,g,[],rfl,w1,w2,.d hr,rfl⟩
def vR{α:Type}[DecidableEq α](P:Program)(t:TypeId)(f:α→D)(d:Nat):Prop:=
 ∀ Pr w x y a b,aV Pr w (f x) a→aV Pr w (f y) b→∀ w',(Op.equalIn d t a b).run P w'=.ok (decide (x=y)) w'
theorem vR.int{P:Program}{t:TypeId}{k:IntKind}{d:Nat}(h:P.underlying t=some (.int k)):vR P t (D.int k) (d+1):=by
 intro Pr w x y a b ha hb w'
 cases ha;cases hb
 rw[run_equalIn_int (P:=P) w' d t k k x y h];congr 1
theorem vR.bool{P:Program}{t:TypeId}{d:Nat}(h:P.underlying t=some .bool):vR P t D.bool (d+1):=by
 intro Pr w x y a b ha hb w'
 cases ha;cases hb
 rw[run_equalIn_bool' (P:=P) w' d t x y h];congr 1
theorem vR.str{P:Program}{t:TypeId}{d:Nat}(h:P.underlying t=some .string):vR P t D.str (d+1):=by
 intro Pr w x y a b ha hb w'
 cases ha;cases hb
 rw[run_equalIn_string (P:=P) w' d t ⟨x.toArray⟩ ⟨y.toArray⟩ h];congr 1
 rw[ByteArray.toList_eq,ByteArray.toList_eq,abG];simp
theorem vR.arr{α β:Type}[DecidableEq α][DecidableEq β]{P:Program}{t e n s d:Nat}{f:α→D}{fb:β→D}{lx:β→List α}(hu:P.underlying t=some (.array n e))(dE:∃ i,P.info? e=some i∧i.size=s)(hf:En f s)
  (hi:(Sc P e∧∀ z,(f z).cells=[f z])∨(Ag P e s∧∀ z,f z=.agg (f z).cells))(hE:vR P e f d)(hb:∀ x,fb x=.agg (D.flat ((lx x).map f)))(hl:∀ x,(lx x).length=n)(hj:∀ x y,lx x=lx y→x=y):vR P t fb (d+1):=by
 intro Pr w x y a b ha G7 w'
 rw[hb] at ha G7
 have h1:∃ xs,a=.agg xs:=by cases ha;exact⟨_,rfl⟩
 have h2:∃ ys,b=.agg ys:=by cases G7;exact⟨_,rfl⟩
 obtain⟨xs,rfl⟩:=h1
 obtain⟨ys,rfl⟩:=h2
 obtain⟨i,i1,i2⟩:=dE
 have key:∀ (m k:Nat),k+m=n→(Sem.run P (forIn (List.range' k m) ((none,()):Option Bool×Unit) fun i r=>do
   if (!(←Op.equalIn d e (←part e xs (i*s)) (←part e ys (i*s))))=true then pure (ForInStep.done (some false,())) else pure (ForInStep.yield (none,()))) w')=
   .ok (if (lx x).drop k=(lx y).drop k then none else some false,()) w':=by
  intro m
  induction m with
  |zero=>
   intro k hk
   have:=hl x;have:=hl y
   rw[aeg (by omega),aeg (by omega)]
   simp
  |succ m ih=>
   intro k hk
   have Xp:=hl x;have hy1:=hl y
   have ex:(lx x)[k]?=some ((lx x)[k]'(by omega)):=aaV _
   have ey:(lx y)[k]?=some ((lx y)[k]'(by omega)):=aaV _
   obtain⟨p1,p2⟩:=pZ hf ex
   obtain⟨q1,q2⟩:=pZ hf ey
   obtain⟨u,u1,u2⟩:=su (P:=P) ha ⟨p1,hf.sz _,p2⟩ hi
   obtain⟨v,v1,v2⟩:=su (P:=P) G7 ⟨q1,hf.sz _,q2⟩ hi
   have hc:=hE Pr w _ _ u v u1 v1 w'
   rw[ab7 (show k<(lx x).length by omega),ab7 (show k<(lx y).length by omega)]
   rw[adr,List.forIn_cons]
   simp only[abl,u2,v2,aa3,hc]
   by_cases Mg:(lx x)[k]'(by omega)=(lx y)[k]'(by omega)
   ·simp only[Mg,abo,abt,aaU,abb,abu,aa3,List.cons.injEq,true_and]
    exact au
   ·have aR:¬((lx x)[k]'(by omega)::(lx x).drop (k+1)=(lx y)[k]'(by omega)::(lx y).drop (k+1)):=fun e=>Mg (List.cons.inj e).1
    exact au
 have:=key n 0 (by omega)
 have hr:∀ (g:Nat→Option Bool×Unit→Sem (ForInStep (Option Bool×Unit))),forIn [0:n] ((none,()):Option Bool×Unit) g=forIn (List.range' 0 n) (none,()) g:=fun g=>by
  simp
 simp only[Op.equalIn,abl,aaX hu,aa3,aq i1,i2]
 rw[hr,this]
 simp only[acP,aa3]
 by_cases Mg:lx x=lx y
 ·rw[aa2 Mg,hj x y Mg];simp
 ·rw[aa7 Mg,abF (fun e=>Mg (by rw[e]))];simp
theorem Pz.of{α:Type}[DecidableEq α]{P:Program}{t:TypeId}{f:α→D}{X:α→List D}(hg:P.eqGuardType P.depth t=false)(h:vR P t f 10000)(hX:∀ x,f x=.agg (X x)):Pz P t f:=by
 refine⟨hg,fun Pr w x y a b ha hb=>?_⟩
 have k:=h Pr w x y a b ha hb
 rw[hX] at ha hb
 cases ha;cases hb
 exact au
inductive Hu(P:Program)(d:Nat)(X Y:List D):List Field→Bool→Prop
 |nil:Hu P d X Y [] true
 |cons {α:Type} [DecidableEq α] {ff:α→D} {u v:α} {s:Nat} {f:Field} {fs:List Field} {b:Bool}:f.name≠"_"→lJ X f.offset s (ff u).cells→lJ Y f.offset s (ff v).cells→
   ((Sc P f.type∧∀ z,(ff z).cells=[ff z])∨(Ag P f.type s∧∀ z,ff z=.agg (ff z).cells))→vR P f.type ff d→Hu P d X Y fs b→Hu P d X Y (f::fs) (decide (u=v)&&b)
theorem Hu.run{P:Program}{d:Nat}{X Y:List D}{Pr:Nat→Nat→Prop}{w:World}{xs ys:Array Value}(hx:aV Pr w (.agg X) (.agg xs))(hy:aV Pr w (.agg Y) (.agg ys)){fs:List Field}{b:Bool}(h:Hu P d X Y fs b):
  ∀ w',(Op.eqFields d xs ys fs).run P w'=.ok b w':=by
 induction h with
 |nil=>intro w';simp[Op.eqFields]
 |cons h1 h2 h3 h4 h5 _ ih=>
  intro w'
  obtain⟨u,u1,u2⟩:=su (P:=P) hx h2 h4
  obtain⟨v,v1,v2⟩:=su (P:=P) hy h3 h4
  have hc:=h5 Pr w _ _ u v u1 v1 w'
  simp only[Op.eqFields,h1,ne_eq,not_false_eq_true,abh,abl,u2,v2,aa3,hc,Sem.run_ite,abu,ih]
  split<;>simp_all
theorem vR.st{α:Type}[DecidableEq α]{P:Program}{t:TypeId}{d:Nat}{fb:α→D}{X:α→List D}{fs:Array Field}(hu:P.underlying t=some (.struct fs))(hp:P.stoodInHeld t=false)(hX:∀ x,fb x=.agg (X x))
  (h:∀ x y,∃ b,Hu P d (X x) (X y) fs.toList b∧b=decide (x=y)):vR P t fb (d+1):=by
 intro Pr w x y a b ha hb w'
 rw[hX] at ha hb
 obtain⟨c,h1,h2⟩:=h x y
 have e1:∃ xs,a=.agg xs:=by cases ha;exact⟨_,rfl⟩
 have e2:∃ ys,b=.agg ys:=by cases hb;exact⟨_,rfl⟩
 obtain⟨xs,rfl⟩:=e1
 obtain⟨ys,rfl⟩:=e2
 have hf:P.fieldsOf t=fs:=by simp[Program.fieldsOf,hu]
 rw[run_equalIn_agg w' d t xs ys (by rw[hf];exact hu) hp,hf,Hu.run ha hb h1 w',h2]
end Go.Proofs.YtjdnbobilgamdaaGreatDoor.Ab
end
