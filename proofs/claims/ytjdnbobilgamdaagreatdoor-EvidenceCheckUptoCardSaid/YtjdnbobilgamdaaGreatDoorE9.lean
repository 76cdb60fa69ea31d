/- What the computing reader says of an operation, the model does. Operations that make regions or write them. Operations on slices, maps, texts. Operations on parts of values, maps, texts; lengths. Conditions: none. -/
import Derived.Test.YtjdnbobilgamdaaGreatDoorE5s
import Derived.Laws.MakeOwn
section
namespace Go.Proofs.YtjdnbobilgamdaaGreatDoor.Ev
open Go
open Ab (aO aq aX Addr.aT)
theorem mC(P:Program){α:Type}(s:Sem α):∀ (a:α),qM P s=some a→∀ w,s.run P w=.ok a w:=by
 induction s with
 |pure a=>intro b h w;cases h;rfl
 |program k ih=>intro b h w;exact ih P b h w
 |_=>intro b h;cases h
mutual
theorem kW{σ:Sg}:∀ {c:CV} {x y:Value},Cb c=some x→RV σ c y→y=x
 |.i _ _,_,_,h,hr=>by cases h;exact hr
 |.b _,_,_,h,hr=>by cases h;exact hr
 |.v _,_,_,h,hr=>by cases h;exact hr
 |.a l,_,_,h,⟨m,h1,h2⟩=>by
  simp only[Cb] at h
  split at h
  ·rename_i r hr
   cases h;rw[h1,Ad hr h2]
  ·cases h
 |.t l,_,_,h,⟨m,h1,h2⟩=>by
  simp only[Cb] at h
  split at h
  ·rename_i r hr
   cases h;rw[h1,Ad hr h2]
  ·cases h
 |.sl _ _ _ _,_,_,h,_=>by cases h
 |.so _ _ _ _,_,_,h,_=>by cases h
 |.p _ _,_,_,h,_=>by cases h
 |.m _,_,_,h,_=>by cases h
 |.f _ _,_,_,h,_=>by cases h
 |.cp _,_,_,h,_=>by cases h
 |.any,_,_,h,_=>by cases h
theorem Ad{σ:Sg}:∀ {c:List CV} {x y:List Value},FZ c=some x→ig σ c y→y=x
 |[],_,_,h,hr=>by cases h;exact hr
 |a::l,x,y,h,⟨b,r,h1,h2,h3⟩=>by
  simp only[FZ] at h
  split at h
  ·rename_i u v hu hv
   cases h;rw[h1,kW hu h2,Ad hv h3]
  ·cases h
end
theorem pB(σ:Sg)(x:Value):RV σ (xC x) x:=by unfold xC;split<;>rfl
theorem ub(σ:Sg):∀ (l:List Value),ig σ (l.map xC) l
 |[]=>rfl
 |x::l=>⟨x,l,rfl,pB σ x,ub σ l⟩
theorem EA(σ:Sg)(x:Value):RV σ (Qf x) x:=by
 unfold Qf;split
 ·rename_i cs;exact⟨cs.toList,rfl,ub σ _⟩
 ·exact pB σ _
theorem RQ(E:Env)(p:G Env CV):qo E (.t p)=p.g E:=rfl
theorem WH(E:Env)(v:CV):qo E (.c v)=v:=rfl
theorem vd{σ:Sg}{E:Env}{a:Act}(h:∀ t,t<512→RV σ ((iM CV 3 t).g E) (a.tmps.getD t undef)):∀ (x:Operand),RV σ (eO E x) (a.eval x)
 |.tmp t=>by
  cases hb:Nat.blt t 512 with
  |true=>simp only[eO,dK,hb,abf,RQ];exact h t (by simpa[abK] using hb)
  |false=>simp only[eO,dK,hb,abJ,WH,RV]
 |.const v=>EA σ v
 |.func f=>⟨[],rfl,rfl⟩
 |.global _=>trivial
theorem po(d:TypeDesc):nE d=Ab.nE d:=by cases d<;>rfl
theorem Nq{j k:IntKind}(h:XN j k=true):j=k:=by cases j<;>cases k<;>first|rfl|cases h
theorem wrap64(n:Int)(h1:-9223372036854775808≤n)(h2:n<9223372036854775808):IntKind.i64.wrap n=n:=by
 simp only[IntKind.wrap,IntKind.bits,IntKind.signed];simp;omega
theorem N1:Qh=9223372036854775808:=rfl
theorem QI:∀ n:Int,Qi n=IntKind.i64.wrap n
 |.ofNat m=>by
  simp only[Qi]
  by_cases hb:m<Qh
  ·rw[show Nat.blt m Qh=true by rw[abK];exact hb,abf]
   rw[N1] at hb
   exact(wrap64 _ (by simp only[acu];omega) (by simp only[acu];omega)).symm
  ·rw[show Nat.blt m Qh=false by rw[acW,ne_eq,abK];exact hb,abJ]
 |.negSucc m=>by
  simp only[Qi]
  by_cases hb:m<Qh
  ·rw[show Nat.blt m Qh=true by rw[abK];exact hb,abf]
   rw[N1] at hb
   exact(wrap64 _ (by omega) (by omega)).symm
  ·rw[show Nat.blt m Qh=false by rw[acW,ne_eq,abK];exact hb,abJ]
theorem sQ(k:IntKind)(n:Int):wr k n=k.wrap n:=by
 cases k
 case i64=>exact QI n
 all_goals rfl
theorem TJ:∀ (a b:Int),Qj a b=decide (a<b)
 |.ofNat a,.ofNat b=>by
  simp only[Qj,acu]
  by_cases h:a<b
  ·rw[show Nat.blt a b=true by simpa[abK] using h,abm (by omega)]
  ·rw[show Nat.blt a b=false by simpa[acW,abK] using h,abF (by omega)]
 |.negSucc a,.ofNat b=>by simp only[Qj,acu];rw[abm (by omega)]
 |.ofNat a,.negSucc b=>by simp only[Qj,acu];rw[abF (by omega)]
 |.negSucc a,.negSucc b=>by
  simp only[Qj]
  by_cases h:b<a
  ·rw[show Nat.blt b a=true by simpa[abK] using h,abm (by omega)]
  ·rw[show Nat.blt b a=false by simpa[acW,abK] using h,abF (by omega)]
theorem QA(a b:Nat):Nat.beq a b=decide (a=b):=by
 by_cases h:a=b
 ·subst h;simp
 ·rw[abF h,←Bool.not_eq_true,abQ];exact h
theorem Np:∀ (a b:Int),RL a b=(a==b)
 |.ofNat a,.ofNat b=>by
  simp only[RL,acu,QA,Ab.tD]
  by_cases h:a=b
  ·simp[h]
  ·rw[abF h,abF (by omega)]
 |.negSucc a,.ofNat b=>by simp only[RL,acu,Ab.tD];rw[abF (by omega)]
 |.ofNat a,.negSucc b=>by simp only[RL,acu,Ab.tD];rw[abF (by omega)]
 |.negSucc a,.negSucc b=>by simp only[RL,QA,Ab.tD];by_cases h:a=b<;>simp[h]
theorem TK{P:Program}{op:BinOp}{g:IntKind→Int→Int→CV}(h:V5 op=some g)(k:IntKind)(a b:Int)(t:TypeId)(ox oy:Operand)(w:World)(σ:Sg):
  ∃ rv,(do eqGuard op t ox oy (.int k a) (.int k b);binOp op t (.int k a) (.int k b)).run P w=.ok rv w∧RV σ (g k a b) rv:=by
 cases op<;>simp only[V5,aaW,reduceCtorEq] at h<;>subst h
 all_goals refine⟨_,?_,rfl⟩
 all_goals simp[eqGuard,binOp,Op.intArith,Op.intCmp,sQ,TJ,Np,bne]
 all_goals first|done|rfl|(by_cases h:a<b<;>simp[h]<;>omega)|(by_cases h:b<a<;>simp[h]<;>omega)
theorem xR{P:Program}{t:TypeId}{x y:Value}{b:Bool}{w:World}(h:∀ d,(Op.equalIn (d+1) t x y).run P w=.ok b w):(Op.equal t x y).run P w=.ok b w:=h 9999
theorem An{P:Program}{op:BinOp}{t:TypeId}{ox oy:Operand}{cx cy v:CV}(h:M7 P op t ox oy cx cy=some v){σ:Sg}{a b:Value}(ha:RV σ cx a)(hb:RV σ cy b)(w:World):
  ∃ rv,(do eqGuard op t ox oy a b;binOp op t a b).run P w=.ok rv w∧RV σ v rv:=by
 unfold M7 at h
 split at h
 ·rename_i n lo
  split at h
  ·cases hd:decide (n≤(lo:Int)) with
   |false=>rw[hd] at h;cases h
   |true=>
    rw[hd] at h
    cases h
    obtain⟨m,rfl,hm⟩:=hb
    cases ha
    have:=acC hd
    refine⟨_,?_,rfl⟩
    simp[eqGuard,binOp,Op.intCmp]
    omega
  ·cases h
 ·split at h
  ·rename_i x y hx hy
   split at h
   ·rename_i r hr
    cases h
    rw[kW hx ha,kW hy hb]
    exact⟨r,mC P _ _ hr w,pB σ r⟩
   ·cases h
  ·split at h
   ·rename_i p q hp hq
    have Hi:∀ {c:CV} {x:Value} {p:Bool},isNil c=some p→RV σ c x→∃ u n m,x=.slice u n m∧u.isNone=p:=by
     intro c x p hc hr
     unfold isNil at hc
     split at hc<;>cases hc
     ·cases hr;exact⟨_,_,_,rfl,rfl⟩
     ·obtain⟨b,p,c,h1,h2⟩:=hr;exact⟨_,_,_,h2,rfl⟩
     ·obtain⟨b,p,c,cap,q,h1,h2,_⟩:=hr;exact⟨_,_,_,h2,rfl⟩
    obtain⟨u,n,m,rfl,hu⟩:=Hi hp ha
    obtain⟨u',n',m',rfl,lO⟩:=Hi hq hb
    cases hc:(p||q)&&(iN P t).isSome with
    |false=>rw[hc] at h;cases h
    |true=>
     rw[hc] at h
     cases h
     simp only[aaT] at hc
     have ht:∃ e,P.underlying t=some (.slice e):=by
      have:=hc.2;unfold iN at this;split at this
      ·exact⟨_,by assumption⟩
      ·cases this
     obtain⟨e,ht⟩:=ht
     refine⟨.bool (p&&q),?_,rfl⟩
     have:(Op.equal t (.slice u n m) (.slice u' n' m')).run P w=.ok (p&&q) w:=by
      refine xR (fun d=>?_)
      cases u<;>cases u'<;>simp_all [Op.equalIn,aaX ht]
     simp[eqGuard,binOp,this]
   ·cases h
def ij(P:Program)(o:Op)(ty:TypeId)(ρ:Operand→CV)(H:Hp)(v:CV)(H':Hp):Prop:=
 ∀ σ w r pos after guard dst,aQ σ H w→(∀ x,x∈o.operands→RV σ (ρ x) (r x))→
  aO P ⟨dst,o,ty,pos,after,guard⟩ r w fun rv w'=>∃ aE,aQ aE H' w'∧cG σ H w aE H' w'∧RV aE v rv
section
variable {P:Program}{o:Op}{ty:TypeId}{ρ:Operand→CV}{H H':Hp}{v:CV}
theorem ij.val(h:∀ σ w r,aQ σ H w→(∀ x,x∈o.operands→RV σ (ρ x) (r x))→∃ rv,(∀ pos after guard dst,(execOp r ⟨dst,o,ty,pos,after,guard⟩).run P w=.ok (.value rv) w)∧RV σ v rv):
  ij P o ty ρ H v H:=by
 intro σ w r pos after guard dst hw hx
 obtain⟨rv,h1,h2⟩:=h σ w r hw hx
 unfold aO
 rw[h1]
 exact⟨σ,hw,.refl _ _ _,h2⟩
theorem ij.of(h:∀ σ w r,aQ σ H w→(∀ x,x∈o.operands→RV σ (ρ x) (r x))→∃ rv w' aE,(∀ pos after guard dst,(execOp r ⟨dst,o,ty,pos,after,guard⟩).run P w=.ok (.value rv) w')∧aQ aE H' w'∧cG σ H w aE H' w'∧RV aE v rv):
  ij P o ty ρ H v H':=by
 intro σ w r pos after guard dst hw hx
 obtain⟨rv,w',aE,h1,h2⟩:=h σ w r hw hx
 unfold aO
 rw[h1]
 exact⟨aE,h2⟩
theorem ij.skip(hv:v=.v undef)(h:∀ σ w r,aQ σ H w→(∀ x,x∈o.operands→RV σ (ρ x) (r x))→∃ w' aE,(∀ pos after guard dst,(execOp r ⟨dst,o,ty,pos,after,guard⟩).run P w=.ok .skip w')∧aQ aE H' w'∧cG σ H w aE H' w'):
  ij P o ty ρ H v H':=by
 subst hv
 intro σ w r pos after guard dst hw hx
 obtain⟨w',aE,h1,h2,h3⟩:=h σ w r hw hx
 unfold aO
 rw[h1]
 exact⟨aE,h2,h3,rfl⟩
theorem Tu{op:BinOp}{t u:TypeId}{x y:Operand}(h:F1 (V5 op) (M7 P op t x y) (ρ x) (ρ y)=some v):ij P (.binOp op t x y u) ty ρ H v H:=
 ij.val fun σ w r _ hx=>by
  have h1:=hx x (by simp[Op.operands])
  have h2:=hx y (by simp[Op.operands])
  have key:∃ rv,(do eqGuard op t x y (r x) (r y);binOp op t (r x) (r y)).run P w=.ok rv w∧RV σ v rv:=by
   unfold F1 at h
   generalize F5:ρ x=cx at h h1
   generalize hcy:ρ y=cy at h h2
   split at h
   ·rename_i k a
    split at h
    ·rename_i k' b
     cases hk:XN k k' with
     |false=>rw[hk] at h;exact An h h1 h2 w
     |true=>
      rw[hk] at h
      obtain rfl:=Nq hk
      simp only[abf] at h
      split at h
      ·rename_i g hg
       cases h
       rw[show r x=.int k a from h1,show r y=.int k b from h2]
       exact TK hg k a b t x y w σ
      ·exact An h h1 h2 w
    ·exact An h h1 h2 w
   ·exact An h h1 h2 w
  obtain⟨rv,e1,e2⟩:=key
  refine⟨rv,fun _ _ _ _=>?_,e2⟩
  have ha:∀ {α β γ:Type} (x:Result α) (f:α→World→Result β) (g:β→World→Result γ),(x.andThen fun a w=>(f a w).andThen g)=(x.andThen f).andThen g:=fun x f g=>by cases x<;>rfl
  simp only[abl] at e1
  simp[execOp,ha,e1]
theorem Wc{x:Operand}:ij P (.move x) ty ρ H (ρ x) H:=ij.val fun _ _ r _ hx=>⟨r x,fun _ _ _ _=>rfl,hx x (by simp[Op.operands])⟩
theorem Wd{x:Operand}:ij P (.assign x) ty ρ H (ρ x) H:=ij.val fun _ _ r _ hx=>⟨r x,fun _ _ _ _=>rfl,hx x (by simp[Op.operands])⟩
theorem wS.rd{σ:Sg}{w:World}{id:Nat}{l:List CV}:wS σ w id (.c l)→wS σ w id (.k l)
 |⟨b,p,c,arr,et,h1,h2,h3⟩=>⟨b,p,c,arr,et,_,h1,h2,h3⟩
theorem wT{σ:Sg}{w:World}{H:Hp}{id:Nat}{l:List CV}(h:o_ H id=some l)(he:wS σ w id (H.get id)):wS σ w id (.k l):=by
 unfold o_ at h
 split at h<;>rename_i hg<;>cases h
 ·rw[hg] at he;exact he.rd
 ·rw[hg] at he;exact he
theorem wS.cell{σ:Sg}{w:World}{id:Nat}{l:List CV}(h:wS σ w id (.k l)){b p c:Nat}(hb:σ id=some (b,p,c)):
  ∃ arr et fr,w.heap[b]?=some (.cells arr et fr)∧l.length≤c∧p+c≤arr.size∧ig σ l ((arr.toList.drop p).take l.length)∧∀ k,k<c→w.cell? ⟨b,p+k,none⟩=some (arr.getD (p+k) undef):=by
 obtain⟨b',p',c',arr,et,fr,h1,h2,h3,h4,h5⟩:=h
 rw[hb] at h1;cases h1
 refine⟨arr,et,fr,h2,h3,h4,h5,fun k hk=>?_⟩
 have:p+k<arr.size:=by omega
 simp[World.cell?,h2,Array.getD,this]
theorem QJ(arr:Array Value)(p n o m:Nat)(h:o+m≤n)(h2:p+n≤arr.size):(((arr.toList.drop p).take n).drop o).take m=(List.range m).map fun k=>arr.getD (p+o+k) undef:=by
 apply ab6
 intro i
 by_cases hi:i<m
 ·have h3:p+o+i<arr.size:=by omega
  rw[abj,aa2 hi,abn,abj,aa2 (by omega),abn,aa0]
  simp only[aba,List.getElem?_range hi,abN,Array.getD,←Nat.add_assoc,h3,dif_pos,acx h3,Array.getInternal_eq_getElem]
 ·rw[abv (by simp;omega),abv (by simp;omega)]
theorem wS.XO{σ:Sg}{w:World}{id:Nat}{l:List CV}(h:wS σ w id (.k l)){b p c:Nat}(hb:σ id=some (b,p,c)){o m:Nat}{r:List CV}(hr:tk m (Qg l o)=some r):
  ∃ f:Nat→Value,ig σ r ((List.range m).map f)∧(∀ k,k<m→w.cell? ⟨b,p+o+k,none⟩=some (f k))∧(0<m→o+m≤c):=by
 obtain⟨arr,et,fr,h2,h3,h4,h5,h6⟩:=h.cell hb
 rw[Ih] at hr
 obtain⟨e1,e2⟩:=Jk hr
 simp only[ack] at e2
 by_cases hm:m=0
 ·subst hm
  exact⟨fun _=>undef,by rw[e1];simp[ig],by simp,by omega⟩
 ·refine⟨fun k=>arr.getD (p+o+k) undef,?_,fun k hk=>?_,fun _=>by omega⟩
  ·rw[e1,←QJ arr p l.length o m (by omega) (by omega)];exact(h5.drop o).take m
  ·have:=h6 (o+k) (by omega)
   simpa[abZ] using this
theorem wS.one{σ:Sg}{w:World}{id:Nat}{l:List CV}(h:wS σ w id (.k l)){b p c:Nat}(hb:σ id=some (b,p,c)){o:Nat}{x:CV}(hx:nth l o=some x):
  ∃ v,RV σ x v∧w.cell? ⟨b,p+o,none⟩=some v:=by
 obtain⟨arr,et,fr,h2,h3,h4,h5,h6⟩:=h.cell hb
 obtain⟨v,hv,hr⟩:=h5.nth hx
 rw[hU] at hx
 have ho:=(aaS.1 hx).1
 refine⟨v,hr,?_⟩
 rw[h6 o (by omega)]
 rw[abj,aa2 ho,abn,aa0] at hv
 simp[abB,hv]
theorem We{t:TypeId}{x:Operand}{d:TypeDesc}{n:Nat}(hd:P.underlying t=some d)(hn:kU P t=some n)(h:KN (bif nE d then 0 else Nat.succ n) (ρ x) H=some v):ij P (.load t x) ty ρ H v H:=
 ij.val fun σ w r hw hx=>by
  have h1:=hx x (by simp[Op.operands])
  generalize ρ x=cx at h h1
  unfold KN at h
  split at h
  ·rename_i id o
   split at h
   ·rename_i l hl
    obtain⟨b,p,c,hb,fQ⟩:=h1
    have he:=wT hl (hw.mm id (hw.lt hb))
    have RW:∀ (u:Value) (a:Addr),r x=.pointer (some a)→(loadVar t a).run P w=.ok u w→∀ pos after guard dst,(execOp r ⟨dst,.load t x,ty,pos,after,guard⟩).run P w=.ok (.value u) w:=by
     intro u a ha hu pos after guard dst
     simp[execOp,Instr.loadAt,Instr.sureAddr,ha,hu]
    cases Jr:nE d with
    |true=>
     rw[Jr] at h
     obtain⟨u,h3,h4⟩:=he.one hb (show nth l o=some v from h)
     refine⟨u,RW u _ fQ ?_,h3⟩
     simp[loadVar,Ab.hD hd,←po,Jr,h4]
    |false=>
     rw[Jr] at h
     have h:(match tk n (Qg l o) with|some r=>some (CV.a r)|none=>none)=some v:=h
     split at h
     ·rename_i q hq
      cases h
      obtain⟨f,f1,f2,_⟩:=he.XO hb hq
      unfold kU at hn
      split at hn
      ·rename_i i hi
       cases hn
       refine⟨.agg ((List.range i.size).map f).toArray,RW _ _ fQ ?_,⟨_,rfl,f1⟩⟩
       have:=run_loadCells (P:=P) w ⟨b,p+o,none⟩ i.size f (fun j hj=>by rw[Addr.aT];exact f2 j hj)
       simp[loadVar,Ab.hD hd,←po,Jr,aq hi,this]
      ·cases hn
     ·cases h
   ·cases h
  ·cases h
theorem vl{σ:Sg}{c:CV}{n:Nat}(h:M5 c=some n){x:Value}(hr:RV σ c x):∃ k,x=.int k n:=by
 unfold M5 at h;split at h
 ·cases h;exact⟨_,hr⟩
 ·cases h
theorem Wf{t e s:Nat}{x y:Operand}(hu:P.underlying t=some (.slice e))(hs:kU P e=some s)(h:M9 s (ρ x) (M5 (ρ y))=some v):ij P (.indexAddr t x y) ty ρ H v H:=
 ij.val fun σ w r hw hx=>by
  have h1:=hx x (by simp[Op.operands])
  have h2:=hx y (by simp[Op.operands])
  generalize ρ x=cx at h h1
  generalize ρ y=cy at h h2
  unfold M9 at h
  unfold kU at hs
  split at hs
  ·rename_i ie im
   cases hs
   split at h
   ·rename_i i hi
    obtain⟨k,hk⟩:=vl hi h2
    split at h
    ·rename_i id o len cap
     obtain⟨b,p,c,hb,fQ⟩:=h1
     cases aN:Nat.blt i len with
     |false=>rw[aN] at h;cases h
     |true=>
      rw[aN] at h;cases h
      rw[abK] at aN
      refine⟨.pointer (some ⟨b,p+(o+i*ie.size),none⟩),fun _ _ _ _=>?_,b,p,c,hb,rfl⟩
      simp[execOp,Instr.indexAt,asIntOf,fQ,hk,aaX hu,aN,aq im,Addr.aT,abZ]
    ·rename_i id k' len s'
     obtain⟨b,p,c,cap,q,hb,fQ,hc,hle,pV,ji,hq⟩:=h1
     cases aN:Nat.blt i len&&Nat.beq ie.size s' with
     |false=>rw[aN] at h;cases h
     |true=>
      rw[aN] at h;cases h
      simp only[aaT,abK,abQ] at aN
      have hq:=hq (by omega)
      refine⟨.pointer (some ⟨b,p+((k'+i)*ie.size),none⟩),fun _ _ _ _=>?_,b,p,c,hb,rfl⟩
      have e:p+k'*s'+i*ie.size=p+(k'+i)*ie.size:=by rw[aN.2,abV,abZ]
      simp[execOp,Instr.indexAt,asIntOf,fQ,hk,aaX hu,aN.1,aq im,Addr.aT,hq,e]
    ·cases h
   ·cases h
  ·cases hs
theorem Wg{t k s:Nat}{x:Operand}{f:Field}(hf:Tl P t k=some f)(hs:kU P f.type=some s)(h0:s≠0)(h:M_ f.offset (ρ x)=some v):ij P (.fieldAddr t x k) ty ρ H v H:=
 ij.val fun σ w r hw hx=>by
  have h1:=hx x (by simp[Op.operands])
  generalize ρ x=cx at h h1
  unfold M_ at h
  unfold Tl at hf
  unfold kU at hs
  split at hs
  ·rename_i ie im
   cases hs
   split at hf
   ·rename_i fs hu
    split at h
    ·rename_i id o
     cases h
     obtain⟨b,p,c,hb,fQ⟩:=h1
     refine⟨.pointer (some ⟨b,p+(o+f.offset),none⟩),fun _ _ _ _=>?_,b,p,c,hb,rfl⟩
     simp[execOp,Instr.fieldAt,Instr.sureAddr,fQ,aaX hu,hf,fieldPlace,aq im,h0,Addr.aT,abZ]
    ·cases h
   ·cases hf
  ·cases hs
theorem Wh{c a b:Operand}{E:Env}(h:KO (eO E c) (dK a) (dK b) E=some v):ij P (.pick c a b) ty (eO E) H v H:=
 ij.val fun σ w r hw hx=>by
  have h1:=hx c (by simp[Op.operands])
  generalize eO E c=cc at h h1
  unfold KO at h
  split at h
  ·rename_i q
   cases h
   have hrc:r c=.bool q:=h1
   cases q with
   |true=>exact⟨r a,fun _ _ _ _=>by simp[execOp,hrc,asBool],hx a (by simp[Op.operands])⟩
   |false=>exact⟨r b,fun _ _ _ _=>by simp[execOp,hrc,asBool],hx b (by simp[Op.operands])⟩
  ·cases h
theorem Wi{x:Operand}{i:Nat}(h:Na (ρ x) i=some v):ij P (.extract x i) ty ρ H v H:=
 ij.val fun σ w r hw hx=>by
  have h1:=hx x (by simp[Op.operands])
  generalize ρ x=cx at h h1
  unfold Na at h
  split at h
  ·rename_i l
   obtain⟨m,hm,hr⟩:=h1
   obtain⟨u,hu,hv⟩:=hr.nth h
   exact⟨u,fun _ _ _ _=>by simp[execOp,Instr.extract,hm,hu],hv⟩
  ·rename_i a
   split at h
   ·rename_i u hu
    cases h
    rw[hU,aa0] at hu
    have fQ:r x=.tuple a:=h1
    exact⟨u,fun _ _ _ _=>by simp[execOp,Instr.extract,fQ,hu],pB σ u⟩
   ·cases h
  ·cases h
end
end Go.Proofs.YtjdnbobilgamdaaGreatDoor.Ev
end
section
namespace Go.Proofs.YtjdnbobilgamdaaGreatDoor.Ev
open Go
open Ab (aO aq aX Addr.aT)
theorem aQ.newAt{σ:Sg}{H:Hp}{w:World}(hw:aQ σ H w){id:Nat}{x:AO}{o:Obj}{y:Nat×Nat}(hi:id<H.n)(hf:H.fl≤id)(hr:H.get id=.res)(hx:x≠.res)
  (he:∀ aE:Sg,(∀ j z,σ j=some z→aE j=some z)→aE id=some (w.heap.size,y)→wS aE {w with heap:=w.heap.push o } id x):
  ∃ aE:Sg,aE id=some (w.heap.size,y)∧aQ aE ⟨(bg AO 4 id).s x H.h,H.n,H.fl⟩ {w with heap:=w.heap.push o }∧
   cG σ H w aE ⟨(bg AO 4 id).s x H.h,H.n,H.fl⟩ {w with heap:=w.heap.push o }:=by
 have hle:=hw.le
 have WI:σ id=none:=by have:=hw.mm id hi;rw[hr] at this;exact this
 refine⟨fun i=>if i=id then some (w.heap.size,y) else σ i,by simp,?_,?_⟩
 all_goals
  have r8:∀ j z,σ j=some z→(fun i=>if i=id then some (w.heap.size,y) else σ i) j=some z:=by
   intro j z hz
   have:j≠id:=fun hc=>by rw[hc,WI] at hz;cases hz
   simp[this,hz]
  have ax:∀ j,j<H.n→j≠id→(⟨(bg AO 4 id).s x H.h,H.n,H.fl⟩:Hp).get j=H.get j:=fun j hj aR=>Hp.dF _ _ _ _ _ _ (by omega) (by omega) aR
  have jJ:(⟨(bg AO 4 id).s x H.h,H.n,H.fl⟩:Hp).get id=x:=Hp.get_set_same _ _ _ _ _
  have p7:∀ b,b<w.heap.size→(w.heap.push o)[b]?=w.heap[b]?:=fun b hb=>by rw[acF];simp[Nat.ne_of_lt hb]
  have hblk:∀ j z,j<H.n→(H.get j).live=true→σ j=some z→z.1<w.heap.size:=fun j z hj hl hz=>by
   obtain⟨z',h1,h2⟩:=(hw.mm j hj).aD hl
   rw[hz] at h1;cases h1;exact h2
 ·refine⟨fun j hj=>?_,hw.le,hw.fl,fun j hj=>?_,?_⟩
  ·have:j≠id:=by simp at hj;omega
   simp only[this,abb];exact hw.nn j hj
  ·by_cases h:j=id
   ·subst h;rw[jJ];exact he _ r8 (by simp)
   ·rw[ax j hj h]
    exact(hw.mm j hj).mono r8 (fun Pe=>by
     have:=hw.mm j hj;rw[Pe] at this
     simp only[h,abb];exact this) (fun z hz hl=>p7 _ (hblk j z hj hl hz))
  ·intro j j' z z' h1 h2 h3 h4 h5 h6 h7 h8
   by_cases h:j=id<;>by_cases h':j'=id
   ·omega
   ·exfalso
    rw[ax j' h2 h'] at h5
    simp only[h',abb] at h7
    have:=hblk j' z' h2 h5 h7
    simp only[h,abh,aaW] at h6
    subst h6;simp at h8;omega
   ·exfalso
    rw[ax j h1 h] at h4
    simp only[h,abb] at h6
    have:=hblk j z h1 (AO.jK h4) h6
    simp only[h',abh,aaW] at h7
    subst h7;simp at h8;omega
   ·rw[ax j h1 h] at h4
    rw[ax j' h2 h'] at h5
    simp only[h,abb] at h6
    simp only[h',abb] at h7
    exact hw.sep j j' z z' h1 h2 h3 h4 h5 h6 h7 h8
 ·refine⟨⟨rfl,rfl,rfl⟩,by simp,r8,fun j hj Pe=>?_,fun j hj=>by have:j≠id:=(by omega);simp[this],aaZ _,rfl,fun j hj=>ax j (aa_ hj hw.fl) (by omega),fun b hb _=>p7 b hb,?_,?_⟩
  ·have:j≠id:=fun hc=>Pe (hc▸hr)
   exact⟨by simp[this],by rw[ax j hj this];exact Pe⟩
  ·intro j z h1 h2 h3 h4 h5
   by_cases h:j=id
   ·exfalso;simp only[h,abh,aaW] at h4;subst h4;simp at h5
   ·simp only[h,abb] at h4
    rw[ax j h1 h] at h3
    exact⟨j,z,h1,h2,h3,h4,rfl⟩
  ·intro j z h1 h2 h3 h4 h5
   by_cases h:j=id
   ·exfalso;simp only[h,abh,aaW] at h4;subst h4;simp at h5
   ·simp only[h,abb] at h4
    rw[ax j h1 h] at h3
    exact⟨j,z,h1,h2,h3,h4,rfl⟩
theorem sZ{H H':Hp}{wq:Option Nat}{x:AO}{K:Nat→CV}{v:CV}(h:put H wq x K=some (v,H'))(hq:∀ id,wq=some id→id<H.n)(hx:x≠.res):
  ∃ id,v=K id∧∀ σ w (o:Obj) (y:Nat×Nat),aQ σ H w→(∀ aE:Sg,(∀ j z,σ j=some z→aE j=some z)→aE id=some (w.heap.size,y)→wS aE {w with heap:=w.heap.push o } id x)→
   ∃ aE:Sg,aE id=some (w.heap.size,y)∧aQ aE H' {w with heap:=w.heap.push o }∧cG σ H w aE H' {w with heap:=w.heap.push o }:=by
 unfold put at h
 split at h
 ·obtain⟨h1,h2,h3⟩:=Hp.qp h
  subst h3
  exact⟨H.n,h2,fun σ w o y hw he=>hw.new h1 hx he⟩
 ·rename_i id
  split at h
  ·rename_i hr
   split at h
   ·rename_i H1 zw
    cases h
    obtain⟨h1,h2⟩:=Hp.sQ zw
    subst h2
    exact⟨id,rfl,fun σ w o y hw he=>hw.newAt (hq id rfl) h1 hr hx he⟩
   ·cases h
  ·cases h
theorem vm{σ:Sg}{c:CV}(h:fN c=true){y:Value}(hr:RV σ c y):y.cells=#[y]∧y.oneCell'=true:=by
 cases c with
 |i k n=>obtain rfl:y=_:=hr;exact⟨rfl,rfl⟩
 |b q=>obtain rfl:y=_:=hr;exact⟨rfl,rfl⟩
 |v x=>obtain rfl:y=x:=hr;cases y<;>first|exact⟨rfl,rfl⟩|cases h
 |sl=>obtain⟨b,p,c,_,rfl⟩:=hr;exact⟨rfl,rfl⟩
 |so=>obtain⟨b,p,c,cap,q,_,rfl,_⟩:=hr;exact⟨rfl,rfl⟩
 |p=>obtain⟨b,p,c,_,rfl⟩:=hr;exact⟨rfl,rfl⟩
 |m=>obtain⟨b,p,c,_,rfl⟩:=hr;exact⟨rfl,rfl⟩
 |f=>obtain⟨l,rfl,_⟩:=hr;exact⟨rfl,rfl⟩
 |cp=>obtain⟨n,rfl,_⟩:=hr;exact⟨rfl,rfl⟩
 |a=>cases h
 |t=>cases h
 |any=>cases h
theorem Dl{σ:Sg}{c:CV}{l:List CV}(h:Bo c=some l){y:Value}(hr:RV σ c y):ig σ l y.cells.toList:=by
 unfold Bo at h
 split at h
 ·cases h;obtain⟨m,rfl,hm⟩:=hr;exact hm
 ·cases ho:fN c with
  |false=>rw[ho] at h;cases h
  |true=>
   rw[ho] at h;cases h
   rw[(vm ho hr).1]
   exact⟨y,[],rfl,hr,rfl⟩
theorem tY{σ:Sg}:∀ {l:List CV} {ys:List Value},l.all fN=true→ig σ l ys→∀ y∈ys,y.oneCell'=true
 |[],_,_,h=>by cases h;simp
 |a::l,_,h,⟨y,r,h1,h2,h3⟩=>by
  subst h1
  simp only[aed,aaT] at h
  intro z hz
  simp only[abq] at hz
  rcases hz with rfl|hz
  ·exact(vm h.1 h2).2
  ·exact tY h.2 h3 z hz
theorem N2{σ:Sg}{c:CV}(h:(cells c).all fN=true){y:Value}(hr:RV σ c y):ig σ (cells c) y.cells.toList:=by
 cases hc:c with
 |a l=>subst hc;obtain⟨m,rfl,hm⟩:=hr;exact hm
 |_=>subst hc;simp only[cells,aed,List.all_nil,adB] at h;rw[(vm h hr).1];exact⟨y,[],rfl,hr,rfl⟩
theorem Ii{α:Type}:∀ {l cs r:List α},RK l cs=some r→cs.length≤l.length∧r=cs++l.drop cs.length
 |l,[],r,h=>by simp[RK] at h;simp[h]
 |[],c::cs,r,h=>by simp[RK] at h
 |x::l,c::cs,r,h=>by
  simp only[RK] at h
  split at h
  ·rename_i s hs
   cases h
   obtain⟨h1,h2⟩:=Ii hs
   exact⟨by simpa using h1,by simp[h2]⟩
  ·cases h
theorem fT{α:Type}:∀ {l:List α} {o:Nat} {cs r:List α},eK l o cs=some r→o+cs.length≤l.length∧r=l.take o++cs++l.drop (o+cs.length)
 |[],o,cs,r,h=>by
  simp only[eK] at h
  cases o with
  |zero=>
   simp only[show Nat.beq 0 0=true from rfl,abf] at h
   obtain⟨h1,h2⟩:=Ii h
   exact⟨by simpa using h1,by simpa using h2⟩
  |succ o=>cases h
 |x::l,0,cs,r,h=>by
  have h:RK (x::l) cs=some r:=h
  obtain⟨h1,h2⟩:=Ii h
  exact⟨by simpa using h1,by simpa using h2⟩
 |x::l,o+1,cs,r,h=>by
  have h:(match eK l o cs with|some r=>some (x::r)|none=>none)=some r:=h
  split at h
  ·rename_i s hs
   cases h
   obtain⟨h1,h2⟩:=fT hs
   refine⟨by simp;omega,?_⟩
   rw[h2,show o+1+cs.length=(o+cs.length)+1 by omega]
   simp
  ·cases h
theorem Dm{σ:Sg}{l cs l':List CV}{o:Nat}(h:eK l o cs=some l'){ys vs:List Value}(h1:ig σ l ys)(h2:ig σ cs vs):ig σ l' (ys.take o++vs++ys.drop (o+vs.length)):=by
 obtain⟨_,e⟩:=fT h
 rw[e,←h2.length]
 exact((h1.take o).append h2).append (h1.drop _)
theorem Gu(off:Nat)(v:Array Value)(arr:Array Value)(h:off+v.size≤arr.size):
  (v.zipIdx.foldl (fun cs (c:Value×Nat)=>cs.setIfInBounds (off+c.2) c.1) arr).toList=arr.toList.take off++v.toList++arr.toList.drop (off+v.size):=by
 rw[←Array.foldl_toList,Array.toList_zipIdx]
 obtain⟨f1,f2⟩:=Ab.tG off v.toList 0 arr
 apply ab6
 intro k
 rw[aa0,f2 k]
 simp only[acy,abL]
 have l1:(List.take off arr.toList).length=off:=by simp;omega
 by_cases h1:k<off
 ·rw[aa7 (by omega),abk,aa1 (by omega),abj,aa2 h1,aa0]
 ·rw[abk,aaY (by omega),l1]
  by_cases h2:k<off+v.size
  ·rw[aa2 (by omega),aa1 (by simp;omega)]
  ·rw[aa7 (by omega),aaY (by simp;omega),abn,aa0]
   congr 1
   simp;omega
theorem tH{σ:Sg}{ρ:Operand→CV}{r:Operand→Value}{place place':Nat→Option (Nat×Nat)}(hp:∀ i x,place i=some x→place' i=some x):∀ {ps:List (Nat×Operand)} {cs XW:List CV} {arr:Array Value},
  (∀ x,x∈ps.map (·.2)→RV σ (ρ x) (r x))→F0 place cs (ps.map fun p=>(p.1,ρ p.2))=some XW→ig σ cs arr.toList→∃ arr',Instr.fill place' arr (ps.map fun p=>(p.1,r p.2))=some arr'∧ig σ XW arr'.toList
 |[],cs,XW,arr,_,h,hr=>by cases h;exact⟨arr,rfl,hr⟩
 |(i,x)::ps,cs,XW,arr,hx,h,hr=>by
  simp only[abP,F0] at h
  split at h
  ·rename_i off size l Kq oQ
   cases hb:Nat.beq l.length size with
   |false=>rw[hb] at h;cases h
   |true=>
    rw[hb] at h
    simp only[abf] at h
    rw[abQ] at hb
    split at h
    ·rename_i c1 hs
     have h2:=Dl oQ (hx x (by simp))
     have hlen:=h2.length
     obtain⟨hle,_⟩:=fT hs
     have VY:=hr.length
     simp only[abL] at hlen VY
     have hf:=Gu off (r x).cells arr (by omega)
     have h3:=Dm hs hr h2
     simp only[abL] at h3
     rw[←hf] at h3
     obtain⟨arr',e1,e2⟩:=tH hp (fun y hy=>hx y (by simp at hy ⊢;exact .inr hy)) h h3
     refine⟨arr',?_,e2⟩
     simp only[abP,Instr.fill,hp _ _ Kq]
     rw[aa7 (by simp;omega)]
     exact e1
    ·cases h
  ·cases h
section
variable {P:Program}{o:Op}{ty:TypeId}{ρ:Operand→CV}{H H':Hp}{v:CV}{wq:Option Nat}
theorem qN{t:TypeId}{z:List CV}(h:wR P t=some z):∃ i y,P.info? t=some i∧i.zero=some y∧z=y.cells.toList.map xC:=by
 unfold wR at h
 split at h
 ·rename_i i hi
  split at h
  ·rename_i y hy
   cases h;exact⟨i,y,hi,hy,rfl⟩
  ·cases h
 ·cases h
theorem iO{t:TypeId}{s:Nat}(h:kU P t=some s):∃ i,P.info? t=some i∧i.size=s:=by
 unfold kU at h
 split at h
 ·rename_i i hi;cases h;exact⟨i,hi,rfl⟩
 ·cases h
theorem gU{t e:TypeId}(h:iN P t=some e):P.underlying t=some (.slice e):=by
 unfold iN at h
 split at h
 ·cases h;assumption
 ·cases h
theorem Ao{σ aE:Sg}{w:World}{id:Nat}{l:List CV}{arr:Array Value}{et:TypeId}(hr:ig σ l arr.toList)(hm:∀ j z,σ j=some z→aE j=some z)(hid:aE id=some (w.heap.size,0,arr.size)):
  wS aE {w with heap:=w.heap.push (.cells arr et (0,0))} id (.c l):=by
 have hl:=hr.length
 simp only[abL] at hl
 refine⟨w.heap.size,0,arr.size,arr,et,hid,by simp,by omega,by omega,?_⟩
 rw[acP,hl,acH (by simp)]
 exact hr.mono hm
theorem Ni{e:TypeId}{z:List CV}(hz:wR P e=some z)(h:put H wq (.c z) (.p · 0)=some (v,H'))(hq:∀ id,wq=some id→id<H.n):ij P (.alloc e) ty ρ H v H':=
 ij.of fun σ w r hw _=>by
  obtain⟨i,y,hi,hy,rfl⟩:=qN hz
  obtain⟨id,rfl,k⟩:=sZ h hq (by simp)
  obtain⟨aE,k1,k2,k3⟩:=k σ w (.cells y.cells e (0,0)) (0,y.cells.size) hw (fun aE hm hid=>Ao (ub σ _) hm hid)
  exact⟨.pointer (some ⟨w.heap.size,0,none⟩),_,aE,fun _ _ _ _=>by simp[execOp,Instr.alloc,newVar,newRow,aX hi hy,ac7],k2,k3,_,_,_,k1,rfl⟩
theorem Ts{e:TypeId}{x:Operand}{l:List CV}(hl:Bo (ρ x)=some l)(h:put H wq (.c l) (.p · 0)=some (v,H'))(hq:∀ id,wq=some id→id<H.n):ij P (.box e x) ty ρ H v H':=
 ij.of fun σ w r hw hx=>by
  have h1:=Dl hl (hx x (by simp[Op.operands]))
  obtain⟨id,rfl,k⟩:=sZ h hq (by simp)
  obtain⟨aE,k1,k2,k3⟩:=k σ w (.cells (r x).cells e (0,0)) (0,(r x).cells.size) hw (fun aE hm hid=>Ao h1 hm hid)
  exact⟨.pointer (some ⟨w.heap.size,0,none⟩),_,aE,fun _ _ _ _=>by simp[execOp,Instr.box,newVar,newRow,ac7],k2,k3,_,_,_,k1,rfl⟩
theorem Nj{t:TypeId}{ps:Array (Nat×Operand)}{E:Env}(h:Aa P t ps E=some v):ij P (.build t ps) ty (eO E) H v H:=
 ij.val fun σ w r hw hx=>by
  unfold Aa at h
  split at h
  ·rename_i z pl hz Kq
   split at h
   ·rename_i cs hf
    cases h
    obtain⟨i,y,hi,hy,rfl⟩:=qN hz
    have kB:∀ x,x∈ps.toList.map (·.2)→RV σ (eO E x) (r x):=fun x Zp=>hx x (by simpa[Op.operands] using Zp)
    have key:∀ place',(∀ i x,pl i=some x→place' i=some x)→(∀ arr',Instr.fill place' y.cells (ps.toList.map fun p=>(p.1,r p.2))=some arr'→P.built t (ps.toList.map fun p=>(p.1,r p.2))=some arr')→
      ∃ rv,(∀ pos after guard dst,(execOp r ⟨dst,.build t ps,ty,pos,after,guard⟩).run P w=.ok (.value rv) w)∧RV σ (.a cs) rv:=by
     intro place' hp hb
     obtain⟨arr',e1,e2⟩:=tH (r:=r) (arr:=y.cells) hp kB hf (ub σ _)
     have:=run_build (P:=P) w t (ps.map fun p=>(p.1,r p.2)) arr' (by simpa using hb arr' e1)
     exact⟨.agg arr',fun _ _ _ _=>by simp[execOp,this],arr'.toList,rfl,e2⟩
    unfold Jj at Kq
    split at Kq
    ·rename_i fs hu
     split at Kq
     ·rename_i pls Zq
      cases Kq
      refine key (pls.toArray[·]?) (fun i x hx=>by rw[hU] at hx;simpa using hx) (fun arr' ha=>?_)
      simp only[Program.built,hi,hu,hy,Zq]
      exact ha
     ·cases Kq
    ·rename_i n e hu
     split at Kq
     ·rename_i s hs
      cases Kq
      obtain⟨ie,im,rfl⟩:=iO hs
      refine key (fun i=>some (i*ie.size,ie.size)) (fun i x hx=>hx) (fun arr' ha=>?_)
      simp only[Program.built,hi,hu,hy,im]
      exact ha
     ·cases Kq
    ·cases Kq
   ·cases h
  ·cases h
theorem EB{α β:Type}(f:α→β):∀ (n:Nat) (l:List α),rep n (l.map f)=(rep n l).map f
 |0,_=>rfl
 |n+1,l=>by simp[rep,EB f n l]
theorem yc(z:Array Value):∀ (n:Nat),rep n z.toList=(List.range (n*z.size)).map fun i=>z[i%z.size]!
 |0=>by simp[rep]
 |n+1=>by
  rw[rep,yc z n,abV,Nat.one_mul,adH,List.range_add,abW,acB]
  congr 1
  ·apply ab6
   intro k
   by_cases hk:k<z.size
   ·simp[hk,abX hk]
   ·rw[abv (by simp;omega),abv (by simp;omega)]
  ·apply acX
   intro k _
   simp
theorem Cq{t len:Nat}{ps:Array (Nat×Operand)}{E:Env}(h:nh P t len ps E H wq=some (v,H'))(hq:∀ id,wq=some id→id<H.n):ij P (.buildSlice t len ps) ty (eO E) H v H':=
 ij.of fun σ w r hw hx=>by
  unfold nh at h
  split at h
  ·rename_i e he
   split at h
   ·rename_i s z hs hz
    cases hb:Nat.beq s z.length&&Nat.ble (len*s) 65536 with
    |false=>rw[hb] at h;cases h
    |true=>
     rw[hb] at h
     simp only[abf] at h
     simp only[aaT,abQ,ab2] at hb
     split at h
     ·rename_i cs hf
      obtain⟨i,y,hi,hy,rfl⟩:=qN hz
      obtain⟨ie,im,rfl⟩:=iO hs
      rw[hi] at im;cases im
      have hu:=gU he
      have dE:i.size=y.cells.size:=by simpa using hb.1
      obtain⟨id,rfl,k⟩:=sZ h hq (by simp)
      let zero:Array Value:=if len*i.size=0 then #[] else y.cells
      have PF:ig σ (rep len (y.cells.toList.map xC)) ((Array.range (len*i.size)).map fun k=>zero[k%zero.size]!).toList:=by
       rw[EB,yc]
       have:((Array.range (len*i.size)).map fun k=>zero[k%zero.size]!).toList=(List.range (len*y.cells.size)).map fun k=>y.cells[k%y.cells.size]!:=by
        simp only[zero]
        by_cases h0:len*i.size=0
        ·rw[aa2 h0];rw[dE] at h0;simp[dE,h0]
        ·rw[aa7 h0,dE];simp
       rw[this];exact ub σ _
      obtain⟨arr',e1,e2⟩:=tH (r:=r) (place':=fun k=>some (k*i.size,i.size)) (fun _ _ h=>h) (fun x kB=>hx x (by simpa[Op.operands] using kB)) hf PF
      obtain⟨aE,k1,k2,k3⟩:=k σ w (.cells arr' e (0,0)) (0,arr'.size) hw (fun aE hm hid=>Ao e2 hm hid)
      refine⟨.slice (some ⟨w.heap.size,0,none⟩) len len,_,aE,fun _ _ _ _=>?_,k2,k3,_,_,_,k1,by simp⟩
      have wD:Instr.fill (fun k=>some (k*i.size,i.size)) ((Array.range (len*i.size)).map fun k=>zero[k%zero.size]!) (ps.map fun p=>(p.1,r p.2)).toList=some arr':=by rw[←e1];simp
      have YD:¬(len*i.size > 2^24):=by omega
      have dz:(Instr.buildSlice t len (ps.map fun p=>(p.1,r p.2))).run P w=.ok (.slice (some ⟨w.heap.size,0,none⟩) len len) {w with heap:=w.heap.push (.cells arr' e (0,0))}:=by
       simp only[Instr.buildSlice,abl,aaX hu,aa3,aq hi,aa7 YD]
       by_cases h0:len*i.size=0
       ·have hz:zero=#[]:=by simp[zero,h0]
        rw[hz] at wD
        rw[aa2 h0]
        simp only[abu,aa3,wD,newRow,abl,ac7]
       ·have hz:zero=y.cells:=by simp only[zero,aa7 h0]
        rw[hz] at wD
        rw[aa7 h0]
        simp only[abl,aX hi hy,abu,aa3,wD,newRow,ac7]
      simp only[execOp,abl,dz,aa3,abu]
     ·cases h
   ·cases h
  ·cases h
theorem aQ.store{σ:Sg}{w:World}(hw:aQ σ H w){id off:Nat}{l l' cs:List CV}{vs:List Value}{b p c:Nat}(hb:σ id=some (b,p,c))(hl:row H id=some l)(hs:eK l off cs=some l')(hr:ig σ cs vs)
  (h1:∀ u∈vs,u.oneCell'=true)(h:H.wr id (.c l')=some H'):∃ w',(storeCells ⟨b,p+off,none⟩ vs).run P w=.ok () w'∧aQ σ H' w'∧cG σ H w σ H' w':=by
 obtain⟨hf,rfl⟩:=Hp.sQ h
 have hg:=rB hl
 have hid:=hw.lt hb
 have he:=hw.mm id hid
 rw[hg] at he
 obtain⟨b',p',c',arr,et,e1,e2,e3,e4,e5⟩:=he
 rw[hb] at e1;cases e1
 obtain⟨hle,vQ⟩:=fT hs
 have hlen:=hr.length
 have eL:=acG P b (p+off) et vs 0 arr w e2 (by omega) h1
 refine⟨_,eL,?_⟩
 have Wo:l'.length=l.length:=by rw[vQ];simp;omega
 refine hw.wr (w':=w.setRow b _) hid hf (by rw[hg];rfl) hb ⟨rfl,rfl,rfl⟩ (acJ w b _) (fun b' aR=>acQ w b b' _ aR) (by simp) ?_
 refine⟨b,p,c,_,et,hb,acR w b arr _ et _ e2,by omega,by simp;omega,?_⟩
 rw[Wo]
 have h3:=Dm hs e5 hr
 have:((List.drop p (arr.toList.take (p+off+0)++vs++arr.toList.drop (p+off+0+vs.length))).take l.length)=((arr.toList.drop p).take l.length).take off++vs++((arr.toList.drop p).take l.length).drop (off+vs.length):=by
  apply ab6
  intro k
  have l1:(List.take (p+off) arr.toList).length=p+off:=by simp;omega
  have l2:(((arr.toList.drop p).take l.length).take off).length=off:=by simp;omega
  by_cases hk:k<l.length
  ·rw[abj,aa2 hk,abn,acy,abk,abk]
   by_cases hko:k<off
   ·rw[aa1 (by rw[l1];omega),aa1 (by rw[l2];exact hko),abj,aa2 (show p+k<p+off by omega),abj,aa2 hko,abj,aa2 hk,abn]
   ·refine Eq.trans (b:=(vs++arr.toList.drop (p+off+vs.length))[k-off]?) ?_ (Eq.trans (b:=(vs++((arr.toList.drop p).take l.length).drop (off+vs.length))[k-off]?) ?_ ?_)
    ·rw[aaY (by rw[l1];omega),l1,show p+k-(p+off)=k-off by omega]
    rotate_left
    ·symm;rw[aaY (by rw[l2];omega),l2]
    by_cases h2:k-off<vs.length
    ·rw[aa1 h2,aa1 h2]
    ·have e1:off+vs.length+(k-off-vs.length)=k:=by omega
     have e2:p+off+vs.length+(k-off-vs.length)=p+k:=by omega
     rw[aaY (Nat.le_of_not_lt h2),aaY (Nat.le_of_not_lt h2),abn,abn,e1,e2,abj,aa2 hk,abn]
  ·rw[abv (by simp;omega),abv (by simp;omega)]
 show ig σ l' ((List.drop p (arr.toList.take (p+off+0)++vs++arr.toList.drop (p+off+0+vs.length))).take l.length)
 rw[this]
 exact h3
theorem Nk{t:TypeId}{x y:Operand}(h:Ac P t (ρ x) (ρ y) H=some (v,H')):ij P (.store t x y) ty ρ H v H':=by
 unfold Ac at h
 split at h
 ·rename_i id off F5
  split at h
  ·rename_i l s hl hs
   cases hb:Nat.beq (cells (ρ y)).length s&&(cells (ρ y)).all fN with
   |false=>rw[hb] at h;cases h
   |true=>
    rw[hb] at h
    simp only[abf] at h
    simp only[aaT,abQ] at hb
    split at h
    ·rename_i l' O2
     split at h
     ·rename_i H1 zw
      cases h
      refine ij.skip rfl fun σ w r hw hx=>?_
      have h1:=hx x (by simp[Op.operands])
      have h2:=hx y (by simp[Op.operands])
      rw[F5] at h1
      obtain⟨b,p,c,wV,fQ⟩:=h1
      have h3:=N2 hb.2 h2
      obtain⟨ie,im,dE⟩:=iO hs
      obtain⟨w',k1,k2,k3⟩:=hw.store (P:=P) wV hl O2 h3 (tY hb.2 h3) zw
      refine⟨w',σ,fun _ _ _ _=>?_,k2,k3⟩
      have pX:(r y).cells.size=ie.size:=by have:=h3.length;simp at this;omega
      simp only[execOp,Instr.storeAt,Instr.sureAddr,fQ,abl,abu,aa3,storeVar,aq im,pX,ne_eq,adf,abb,k1]
     ·cases h
    ·cases h
  ·cases h
 ·cases h
end
end Go.Proofs.YtjdnbobilgamdaaGreatDoor.Ev
end
section
namespace Go.Proofs.YtjdnbobilgamdaaGreatDoor.Ev
open Go
open Ab (aO aq aX Addr.aT)
section
variable {P:Program}{o:Op}{ty:TypeId}{ρ:Operand→CV}{H H':Hp}{v:CV}{wq:Option Nat}
theorem F_{x:Operand}{id k:Nat}(h:ρ x=.p id k):ij P (.nilCheck x) ty ρ H (.p id k) H:=
 ij.val fun σ w r hw hx=>by
  have h1:=hx x (by simp[Op.operands])
  rw[h] at h1
  obtain⟨b,p,c,hb,hr⟩:=h1
  exact⟨_,fun _ _ _ _=>by simp[execOp,hr],b,p,c,hb,rfl⟩
theorem Ae{σ:Sg}{ρ:Operand→CV}{r:Operand→Value}:∀ {l:List Operand},(∀ x,x∈l→RV σ (ρ x) (r x))→ig σ (l.map ρ) (l.map r)
 |[],_=>rfl
 |x::l,h=>⟨r x,_,rfl,h x (by simp),Ae fun y hy=>h y (by simp[hy])⟩
theorem F'{fn:Fn}{fst cs:Array Operand}(h:fst.isEmpty=true):ij P (.makeFunc fn fst cs) ty ρ H (.f fn (cs.toList.map ρ)) H:=
 ij.val fun σ w r hw hx=>by
  have h0:fst=#[]:=by simpa using h
  subst h0
  exact⟨.func fn #[] (cs.map r),fun _ _ _ _=>by simp[execOp,Instr.makeFunc],cs.toList.map r,by simp[←Array.toList_map],Ae fun x kB=>hx x (by simpa[Op.operands] using kB)⟩
theorem H7{t:TypeId}(h:put H wq (.m [] 0) .m=some (v,H'))(hq:∀ id,wq=some id→id<H.n):ij P (.makeMap t none) ty ρ H v H':=
 ij.of fun σ w r hw _=>by
  obtain⟨id,rfl,k⟩:=sZ h hq (by simp)
  obtain⟨aE,k1,k2,k3⟩:=k σ w (.map #[] 0) (0,0) hw (fun aE hm hid=>⟨w.heap.size,0,#[],hid,by simp,rfl⟩)
  exact⟨.map (some w.heap.size),_,aE,fun _ _ _ _=>by simp[execOp,Instr.makeMap,ac7],k2,k3,_,_,_,k1,rfl⟩
theorem C'{e:TypeId}(h:u_ P e=true):∃ i,P.info? e=some i∧i.bytes≤65536:=by
 unfold u_ at h
 split at h
 ·rename_i i hi;exact⟨i,hi,by simpa[ab2] using h⟩
 ·cases h
theorem Eo(σ:Sg)(z:Array Value)(n:Nat):ig σ (rep n (z.toList.map xC)) (madeCells z (n*z.size)).toList:=by
 rw[EB,yc]
 have:(madeCells z (n*z.size)).toList=(List.range (n*z.size)).map fun i=>z[i%z.size]!:=by simp[madeCells]
 rw[this];exact ub σ _
theorem Ep{t:TypeId}{l c:Operand}(h:p_ P t (ρ l) (ρ c) H wq=some (v,H'))(hq:∀ id,wq=some id→id<H.n):ij P (.makeSlice t l c) ty ρ H v H':=
 ij.of fun σ w r hw hx=>by
  have h1:=hx l (by simp[Op.operands])
  have h2:=hx c (by simp[Op.operands])
  unfold p_ at h
  split at h
  ·rename_i e he
   split at h
   ·rename_i s z l' c' hs hz hl hc
    cases hb:Nat.beq s z.length&&Nat.ble l' c'&&Nat.ble c' 65536&&u_ P e with
    |false=>rw[hb] at h;cases h
    |true=>
     rw[hb] at h
     simp only[abf] at h
     simp only[aaT,abQ,ab2] at hb
     obtain⟨i,y,hi,hy,rfl⟩:=qN hz
     obtain⟨ie,im,rfl⟩:=iO hs
     rw[hi] at im;cases im
     obtain⟨i2,J7,yP⟩:=C' hb.2
     rw[hi] at J7;cases J7
     have dE:i.size=y.cells.size:=by simpa using hb.1.1.1
     obtain⟨k1,en⟩:=vl hl h1
     obtain⟨k2,oJ⟩:=vl hc h2
     have hmul:i.bytes*c'≤65536*65536:=ac3 yP hb.1.2
     have dz:=run_make (P:=P) w t e i y (gU he) hi hy k1 k2 (l':Int) (c':Int) (by omega) (by omega) (by rw[←Int.natCast_mul];omega) (by omega)
     obtain⟨id,rfl,k⟩:=sZ h hq (by simp)
     obtain⟨aE,e1,e2,e3⟩:=k σ w (.cells (madeCells y.cells (c'*i.size)) e) (0,(madeCells y.cells (c'*i.size)).size) hw (fun aE hm hid=>Ao (by rw[dE];exact Eo σ _ _) hm hid)
     refine⟨.slice (some ⟨w.heap.size,0,none⟩) l' c',_,aE,fun _ _ _ _=>?_,e2,e3,_,_,_,e1,by simp⟩
     simp only[aa8] at dz
     simp only[execOp,abl,en,oJ,dz,aa3,abu]
     rfl
   ·cases h
  ·cases h
theorem Gv{σ:Sg}{c:CV}{d y n:Nat}(h:uo (some c) d y=some n){x:Value}(hr:RV σ c x)(code:BoundsCode)(w:World):n≤y∧(Instr.sliceBound x y code).run P w=.ok n w:=by
 simp only[uo] at h
 split at h
 ·rename_i m hm
  obtain⟨k,rfl⟩:=vl hm hr
  cases hb:Nat.ble m y with
  |false=>rw[hb] at h;cases h
  |true=>
   rw[hb] at h;cases h
   rw[ab2] at hb
   refine⟨hb,?_⟩
   simp only[Instr.sliceBound,asIntOf,abl,abu,aa3]
   rw[aa2 (by omega)]
   simp
 ·cases h
theorem Gw{d y n:Nat}(h:uo none d y=some n):n=d∧d≤y:=by
 simp only[uo] at h
 cases hb:Nat.ble d y with
 |false=>rw[hb] at h;cases h
 |true=>rw[hb] at h;cases h;exact⟨rfl,by simpa[ab2] using hb⟩
theorem vn{σ:Sg}{ρ:Operand→CV}{r:Operand→Value}{lo hi:Option Operand}{len cap h l:Nat}(isS:Bool)(Lx:∀ x,lo=some x→RV σ (ρ x) (r x))(Py:∀ x,hi=some x→RV σ (ρ x) (r x))
  (h1:(hi=none∧h=len∧len≤cap)∨∃ x y,hi=some x∧uo (some (ρ x)) len y=some h∧h≤cap)(h2:uo (lo.map ρ) 0 h=some l)(w:World):
  l≤h∧h≤cap∧(Instr.sliceBounds isS len cap (lo.map r) (hi.map r) none).run P w=.ok (l,h,cap) w:=by
 have hl:l≤h∧((match lo.map r with|some v=>Instr.sliceBound v h .sliceB|none=>pure 0:Sem Nat)).run P w=.ok l w:=by
  cases lo with
  |none=>obtain⟨rfl,_⟩:=Gw h2;exact⟨acp _,rfl⟩
  |some x=>exact Gv h2 (Lx x rfl) _ w
 have hh:h≤cap∧((match hi.map r with|some v=>Instr.sliceBound v cap (if isS then .sliceAcap else .sliceAlen)|none=>pure len:Sem Nat)).run P w=.ok h w:=by
  rcases h1 with ⟨rfl,rfl,hle⟩|⟨x,y,rfl,hb,hle⟩
  ·exact⟨hle,rfl⟩
  ·have dD:uo (some (ρ x)) len cap=some h:=by
    simp only[uo] at hb ⊢
    split at hb
    ·rename_i m hm
     cases hc:Nat.ble m y with
     |false=>rw[hc] at hb;cases hb
     |true=>
      rw[hc] at hb;cases hb
      rw[show Nat.ble h cap=true by rw[ab2];exact hle];rfl
    ·cases hb
   exact Gv dD (Py x rfl) _ w
 refine⟨hl.1,hh.1,?_⟩
 cases Lx:lo<;>cases Py:hi<;>simp only[Lx,Py,Option.map] at hl hh<;>simp[Instr.sliceBounds,hh.2,hl.2]
 all_goals first|done|(have e1:=hh.2;have e2:=hl.2;simp at e1 e2;simp[e1,e2])
theorem EC{hi:Option Operand}{d y n:Nat}(h:uo (hi.map ρ) d y=some n):(hi=none∧n=d∧d≤y)∨∃ x z,hi=some x∧uo (some (ρ x)) d z=some n∧n≤y:=by
 cases hi with
 |none=>obtain⟨h1,h2⟩:=Gw h;exact .inl ⟨rfl,h1,h2⟩
 |some x=>
  refine .inr ⟨x,y,rfl,h,?_⟩
  simp only[Option.map,uo] at h
  split at h
  ·rename_i m hm
   cases hc:Nat.ble m y with
   |false=>rw[hc] at h;cases h
   |true=>rw[hc] at h;cases h;simpa[ab2] using hc
  ·cases h
theorem ok_slice{t:TypeId}{x:Operand}{lo hi:Option Operand}(h:lA P H t (ρ x) (lo.map ρ) (hi.map ρ)=some (v,H')):ij P (.slice t x lo hi none) ty ρ H v H':=by
 have hH:H'=H∧∀ σ w r,aQ σ H w→(∀ y,y∈(Op.slice t x lo hi none).operands→RV σ (ρ y) (r y))→∃ rv,(Instr.sliceAt t (r x) (lo.map r) (hi.map r) none).run P w=.ok rv w∧RV σ v rv:=by
  have Ij:∀ {σ:Sg} {r:Operand→Value},(∀ y,y∈(Op.slice t x lo hi none).operands→RV σ (ρ y) (r y))→RV σ (ρ x) (r x)∧(∀ y,lo=some y→RV σ (ρ y) (r y))∧(∀ y,hi=some y→RV σ (ρ y) (r y)):=
   fun hx=>⟨hx x (by simp[Op.operands]),fun y hy=>hx y (by simp[Op.operands,hy]),fun y hy=>hx y (by simp[Op.operands,hy])⟩
  unfold lA at h
  split at h
  ·rename_i id o len cap F5
   split at h
   ·rename_i e he
    split at h
    ·rename_i s hh hs hb
     split at h
     ·rename_i l hl
      cases h
      refine⟨rfl,fun σ w r hw hx=>?_⟩
      obtain⟨g1,g2,g3⟩:=Ij hx
      rw[F5] at g1
      obtain⟨b,p,c,wV,fQ⟩:=g1
      obtain⟨ie,im,rfl⟩:=iO hs
      obtain⟨k1,k2,k3⟩:=vn (P:=P) true g2 g3 (EC hb) hl w
      refine⟨.slice (some ⟨b,p+(bif Nat.beq cap l then o else o+l*ie.size),none⟩) (hh-l) (cap-l),?_,b,p,c,wV,rfl⟩
      simp only[Instr.sliceAt,Instr.slice,abl,aaX (gU he),aa3,fQ,k3,aq im,abu]
      by_cases oQ:cap=l
      ·simp[oQ]
      ·have:Nat.beq cap l=false:=by rw[←Bool.not_eq_true,abQ];exact oQ
       simp[oQ,this,Addr.aT,abZ]
     ·cases h
    ·cases h
   ·cases h
  ·rename_i id k len s F5
   split at h
   ·rename_i e he
    split at h
    ·rename_i s' hs
     cases CS:Nat.beq s s' with
     |false=>rw[CS] at h;cases h
     |true=>
      rw[CS] at h
      simp only[abf] at h
      rw[abQ] at CS
      subst CS
      split at h
      ·rename_i hh hb
       split at h
       ·rename_i l hl
        cases h
        refine⟨rfl,fun σ w r hw hx=>?_⟩
        obtain⟨g1,g2,g3⟩:=Ij hx
        rw[F5] at g1
        obtain⟨b,p,c,cap,q,wV,fQ,hc,hle,pV,ji,hq⟩:=g1
        obtain⟨ie,im,Zs⟩:=iO hs
        have dD:(hi=none∧hh=len∧len≤cap)∨∃ x z,hi=some x∧uo (some (ρ x)) len z=some hh∧hh≤cap:=by
         split at hb
         ·rename_i h1 yO
          cases hb
          rcases EC yO with ⟨e1,e2,_⟩|⟨y,z,e1,e2,e3⟩
          ·exact .inl ⟨e1,e2,hle⟩
          ·exact .inr ⟨y,z,e1,e2,by omega⟩
         ·split at hb
          ·rename_i l0 rS
           have hid:=hw.lt wV
           have fq:=hw.mm id hid
           rw[rB rS] at fq
           obtain⟨b',p',c',arr,et,f1,f2,f3,f4,f5⟩:=fq
           rw[wV] at f1;cases f1
           have hdiv:l0.length/s-k≤cap:=by
            have:l0.length/s≤(k+cap)*s/s:=Nat.div_le_div_right (by omega)
            rw[adX _ pV] at this
            omega
           rcases EC hb with ⟨e1,e2,e3⟩|⟨y,z,e1,e2,e3⟩
           ·exact .inl ⟨e1,e2,hle⟩
           ·exact .inr ⟨y,z,e1,e2,by omega⟩
          ·cases hb
        obtain⟨k1,k2,k3⟩:=vn (P:=P) true g2 g3 dD hl w
        have dz:(Instr.sliceAt t (r x) (lo.map r) (hi.map r) none).run P w=.ok (.slice (if cap=l then some ⟨b,q,none⟩ else some ⟨b,q+l*s,none⟩) (hh-l) (cap-l)) w:=by
         simp only[Instr.sliceAt,Instr.slice,abl,aaX (gU he),aa3,fQ,k3,aq im,Zs,abu]
         by_cases oQ:cap=l
         ·simp[oQ]
         ·simp[oQ,Addr.aT]
        rw[dz]
        refine⟨_,rfl,b,p,c,cap-l,(if cap=l then q else q+l*s),wV,?_,?_,by omega,pV,by omega,fun h0=>?_⟩
        ·by_cases oQ:cap=l<;>simp[oQ]
        ·rw[←hc];congr 1;omega
        ·rw[aa7 (by omega),hq (by omega),abV,abZ]
       ·cases h
      ·cases h
    ·cases h
   ·cases h
  ·rename_i id off F5
   split at h
   ·rename_i n e hu
    split at h
    ·rename_i s hh hs hb
     split at h
     ·rename_i l hl
      cases h
      refine⟨rfl,fun σ w r hw hx=>?_⟩
      obtain⟨g1,g2,g3⟩:=Ij hx
      rw[F5] at g1
      obtain⟨b,p,c,wV,fQ⟩:=g1
      obtain⟨ie,im,rfl⟩:=iO hs
      obtain⟨k1,k2,k3⟩:=vn (P:=P) false g2 g3 (EC hb) hl w
      refine⟨.slice (some ⟨b,p+(bif Nat.beq n l then off else off+l*ie.size),none⟩) (hh-l) (n-l),?_,b,p,c,wV,rfl⟩
      simp only[Instr.sliceAt,abl,aaX hu,aa3,Instr.sureAddr,fQ,k3,aq im,abu]
      by_cases oQ:n=l
      ·simp[oQ]
      ·have:Nat.beq n l=false:=by rw[←Bool.not_eq_true,abQ];exact oQ
       simp[oQ,this,Addr.aT,abZ]
     ·cases h
    ·cases h
   ·cases h
  ·have hp:∀ {c:CV} {s:Sem Value},(match qM P s with|some v=>some (xC v,H)|none=>none)=some (v,H')→∃ u,qM P s=some u∧v=xC u∧H'=H:=by
    intro c s hh
    split at hh
    ·rename_i u hu;cases hh;exact⟨u,hu,rfl,rfl⟩
    ·cases hh
   have hm:∀ {o:Option Operand} {u:Value},(o.map ρ).map Cb=some (some u)→∃ y,o=some y∧Cb (ρ y)=some u:=by
    intro o u hh
    cases o with
    |none=>cases hh
    |some y=>exact⟨y,rfl,by simpa using hh⟩
   have hn:∀ {o:Option Operand},(o.map ρ).map Cb=none→o=none:=by
    intro o hh;cases o with
    |none=>rfl
    |some y=>cases hh
   split at h
   ·rename_i sb rS TL
    obtain⟨u,hu,rfl,rfl⟩:=hp (c:=.any) h
    obtain⟨y,rfl,hy⟩:=hm rS
    obtain⟨z,rfl,hz⟩:=hm TL
    refine⟨rfl,fun σ w r hw hx=>?_⟩
    obtain⟨g1,g2,g3⟩:=Ij hx
    simp only[Option.map,kW sb g1,kW hy (g2 y rfl),kW hz (g3 z rfl)]
    exact⟨u,mC P _ _ hu w,pB σ u⟩
   ·rename_i sb rS TL
    obtain⟨u,hu,rfl,rfl⟩:=hp (c:=.any) h
    obtain⟨y,rfl,hy⟩:=hm rS
    obtain rfl:=hn TL
    refine⟨rfl,fun σ w r hw hx=>?_⟩
    obtain⟨g1,g2,g3⟩:=Ij hx
    simp only[Option.map,kW sb g1,kW hy (g2 y rfl)]
    exact⟨u,mC P _ _ hu w,pB σ u⟩
   ·rename_i sb rS TL
    obtain⟨u,hu,rfl,rfl⟩:=hp (c:=.any) h
    obtain⟨z,rfl,hz⟩:=hm TL
    obtain rfl:=hn rS
    refine⟨rfl,fun σ w r hw hx=>?_⟩
    obtain⟨g1,g2,g3⟩:=Ij hx
    simp only[Option.map,kW sb g1,kW hz (g3 z rfl)]
    exact⟨u,mC P _ _ hu w,pB σ u⟩
   ·rename_i sb rS TL
    obtain⟨u,hu,rfl,rfl⟩:=hp (c:=.any) h
    obtain rfl:=hn rS
    obtain rfl:=hn TL
    refine⟨rfl,fun σ w r hw hx=>?_⟩
    obtain⟨g1,g2,g3⟩:=Ij hx
    simp only[Option.map,kW sb g1]
    exact⟨u,mC P _ _ hu w,pB σ u⟩
   ·cases h
 obtain⟨rfl,hH⟩:=hH
 refine ij.val fun σ w r hw hx=>?_
 obtain⟨rv,h1,h2⟩:=hH σ w r hw hx
 exact⟨rv,fun _ _ _ _=>by simp[execOp,h1],h2⟩
end
end Go.Proofs.YtjdnbobilgamdaaGreatDoor.Ev
end
section
namespace Go.Proofs.YtjdnbobilgamdaaGreatDoor.Ev
open Go
open Ab (aO aq aX Addr.aT)
section
variable {P:Program}{o:Op}{ty:TypeId}{ρ:Operand→CV}{H H':Hp}{v:CV}{wq:Option Nat}
theorem KS{t:TypeId}{x y:Operand}(h:Br P t (ρ x) (ρ y)=some v):ij P (.indexAddr t x y) ty ρ H v H:=
 ij.val fun σ w r hw hx=>by
  have h1:=hx x (by simp[Op.operands])
  have h2:=hx y (by simp[Op.operands])
  generalize ρ x=cx at h h1
  unfold Br at h
  split at h
  ·rename_i i n e hi hu
   split at h
   ·rename_i s id off hs
    obtain⟨b,p,c,hb,fQ⟩:=h1
    obtain⟨ie,im,rfl⟩:=iO hs
    obtain⟨k,hk⟩:=vl hi h2
    cases aN:Nat.blt i n with
    |false=>rw[aN] at h;cases h
    |true=>
     rw[aN] at h;cases h
     rw[abK] at aN
     refine⟨.pointer (some ⟨b,p+(off+i*ie.size),none⟩),fun _ _ _ _=>?_,b,p,c,hb,rfl⟩
     simp[execOp,Instr.indexAt,asIntOf,Instr.sureAddr,fQ,hk,aaX hu,aN,aq im,Addr.aT,abZ]
   ·cases h
  ·cases h
theorem N3{σ:Sg}{t:TypeId}{l:List CV}{off:Nat}{v:CV}(h:C_ P t l off=some v){m:List Value}(hr:ig σ l m)(w:World):∃ u,(part t ⟨m⟩ off).run P w=.ok u w∧RV σ v u:=by
 unfold C_ at h
 split at h
 ·rename_i d hd
  cases Jr:nE d with
  |true=>
   rw[Jr] at h
   obtain⟨u,hu,hv⟩:=hr.nth (show nth l off=some v from h)
   exact⟨u,by simp[part,Ab.hD hd,←po,Jr,hu],hv⟩
  |false=>
   rw[Jr] at h
   simp only[abJ] at h
   split at h
   ·rename_i n hn
    split at h
    ·rename_i r Yd
     cases h
     obtain⟨ie,im,rfl⟩:=iO hn
     rw[Ih] at Yd
     obtain⟨e1,e2⟩:=Jk Yd
     refine⟨.agg ((⟨m⟩:Array Value).extract off (off+ie.size)),by simp[part,Ab.hD hd,←po,Jr,aq im],((⟨m⟩:Array Value).extract off (off+ie.size)).toList,rfl,?_⟩
     have:((⟨m⟩:Array Value).extract off (off+ie.size)).toList=(m.drop off).take ie.size:=by
      simp[Array.toList_extract,List.extract]
     rw[this,e1]
     exact(hr.drop off).take _
    ·cases h
   ·cases h
 ·cases h
theorem Nl{t:TypeId}{x y:Operand}(h:Eh P t (ρ x) (ρ y)=some v):ij P (.index t x y) ty ρ H v H:=
 ij.val fun σ w r hw hx=>by
  have h1:=hx x (by simp[Op.operands])
  have h2:=hx y (by simp[Op.operands])
  generalize ρ x=cx at h h1
  unfold Eh at h
  split at h
  ·rename_i n e l i hu hi
   obtain⟨m,hm,hr⟩:=h1
   obtain⟨k,hk⟩:=vl hi h2
   split at h
   ·rename_i s hs
    obtain⟨ie,im,rfl⟩:=iO hs
    cases aN:Nat.blt i n with
    |false=>rw[aN] at h;cases h
    |true=>
     rw[aN] at h
     rw[abK] at aN
     obtain⟨u,e1,e2⟩:=N3 h hr w
     exact⟨u,fun _ _ _ _=>by simp[execOp,Instr.index,asIntOf,hm,hk,aaX hu,aN,aq im,e1],e2⟩
   ·cases h
  ·rename_i s i hu hi
   obtain⟨k,hk⟩:=vl hi h2
   have fQ:r x=.string s:=h1
   split at h
   ·rename_i b hb
    cases h
    rw[hU] at hb
    have aN:i<s.size:=by have:=(aaS.1 hb).1;rw[abL] at this;exact this
    have ax:s[i]?=some b:=by
     rw[getElem?_pos s i aN]
     have:=(aaS.1 hb).2
     simp only[aaW]
     rw[←this];rfl
    exact⟨.int .u8 b.toNat,fun _ _ _ _=>by simp[execOp,Instr.index,asIntOf,fQ,hk,aaX hu,ax],rfl⟩
   ·cases h
  ·cases h
theorem BR{σ:Sg}:∀ {es:List (CV×CV×Nat)} {rs es':List MapEntry},z_ es=some rs→uq σ es es'→rs=es'.map (fun e=>⟨e.key,undef,e.born⟩)
 |[],_,_,h,hr=>by cases h;cases hr;rfl
 |(k,x,b)::l,_,_,h,⟨e,r,h1,h2,h3,h4,h5⟩=>by
  simp only[z_] at h
  split at h
  ·rename_i u s hu hs
   cases h
   rw[h1,BR hs h5]
   simp[kW hu h2,h4]
  ·cases h
theorem vo{d:TypeDesc}{k:Value}:∀ {es:List MapEntry} {j:Nat} {res:Option (Nat×Value)},Instr.findNow d k (es.map fun e=>⟨e.key,undef,e.born⟩) j=some res→
  (res=none∧Instr.findNow d k es j=some none)∨∃ i u e,res=some (i,u)∧j≤i∧es[i-j]?=some e∧Instr.findNow d k es j=some (some (i,e.val))
 |[],j,res,h=>by
  have h:some none=some res:=h
  cases h;exact .inl ⟨rfl,rfl⟩
 |e::es,j,res,h=>by
  simp only[abP,Instr.findNow] at h ⊢
  split at h
  ·rename_i hs
   cases h
   exact .inr ⟨j,_,e,rfl,aaZ _,by simp,by simp[hs]⟩
  ·rename_i hs
   rcases vo h with ⟨rfl,h2⟩|⟨i,u,e',rfl,h2,h3,h4⟩
   ·exact .inl ⟨rfl,by simp[hs,h2]⟩
   ·exact .inr ⟨i,u,e',rfl,by omega,by rw[show i-j=(i-(j+1))+1 by omega];simpa using h3,by simp[hs,h4]⟩
  ·cases h
theorem uq.len{σ:Sg}:∀ {c:List (CV×CV×Nat)} {y:List MapEntry},uq σ c y→c.length=y.length
 |[],_,h=>by cases h;rfl
 |(_,_,_)::_,_,⟨e,r,h1,_,_,_,h5⟩=>by subst h1;simp[uq.len h5]
theorem uq.get{σ:Sg}:∀ {c:List (CV×CV×Nat)} {y:List MapEntry},uq σ c y→∀ {i:Nat} {e:MapEntry},y[i]?=some e→∃ k x,c[i]?=some (k,x,e.born)∧RV σ k e.key∧RV σ x e.val
 |[],_,h,i,e,he=>by cases h;simp at he
 |(k,x,b)::l,_,⟨e0,r,h1,h2,h3,h4,h5⟩,i,e,he=>by
  subst h1
  cases i with
  |zero=>simp at he;subst he;exact⟨k,x,by simp[h4],h2,h3⟩
  |succ i=>simpa using uq.get h5 (i:=i) (by simpa using he)
theorem RX{a b:ByteArray}(h:(a==b)=true):a=b:=by
 cases a;cases b
 have h:(ByteArray.beq _ _)=true:=h
 simp[ByteArray.beq] at h
 simp[h]
theorem K7{d:TypeDesc}(hd:Qk d=true){k x:Value}(h:Instr.sameNow d k x=some true):Instr.sameBits 10000 x k=true:=by
 cases d with
 |int ik=>
  cases k<;>try (cases h;done)
  cases x<;>try (cases h;done)
  simp only[Instr.sameNow] at h
  split at h
  ·simp at h;simp_all [Instr.sameBits]
  ·cases h
 |string=>
  cases k<;>try (cases h;done)
  cases x<;>try (cases h;done)
  simp only[Instr.sameNow,aaW] at h
  have:=RX h
  subst this
  simp only[Instr.sameBits]
  exact h
 |_=>cases hd
theorem N4{d:TypeDesc}(hd:Qk d=true){k x:Value}(h:Instr.sameNow d k x=some true):x=k:=by
 cases d with
 |int ik=>
  cases k<;>try (cases h;done)
  cases x<;>try (cases h;done)
  simp only[Instr.sameNow] at h
  split at h
  ·simp at h;simp_all
  ·cases h
 |string=>
  cases k<;>try (cases h;done)
  cases x<;>try (cases h;done)
  simp only[Instr.sameNow,aaW] at h
  rw[RX h]
 |_=>cases hd
theorem wX{σ:Sg}{kt:TypeId}{ck:CV}{es:List (CV×CV×Nat)}{res:Option Nat}(h:Jg P kt ck es=some res){k:Value}{arr:Array MapEntry}(hk:RV σ ck k)(hr:uq σ es arr.toList)(b:Bool)(w:World):
  (Instr.checkKey b 10000 kt k).run P w=.ok () w∧
  ((res=none∧(Instr.findKey kt k arr.toList).run P w=.ok none w)∨∃ i e,res=some i∧arr.toList[i]?=some e∧(Instr.findKey kt k arr.toList).run P w=.ok (some (i,e.val)) w∧Instr.sameBits 10000 e.key k=true∧e.key=k):=by
 unfold Jg at h
 split at h
 ·rename_i d hd
  cases hb:Qk d with
  |false=>rw[hb] at h;cases h
  |true=>
   rw[hb] at h
   simp only[abf] at h
   split at h
   ·rename_i k0 rs Wt Rp
    obtain rfl:=kW Wt hk
    have Rp:=BR Rp hr
    have hc:(Instr.checkKey b 10000 kt k).run P w=.ok () w:=by
     have:∀ n,(Instr.checkKey b (n+1) kt k).run P w=.ok () w:=by
      intro n
      cases d<;>first|(cases hb;done)|(cases k<;>simp[Instr.checkKey,aaX hd])
     exact this 9999
    refine⟨hc,?_⟩
    have fk:∀ r,Instr.findNow d k arr.toList 0=some r→(Instr.findKey kt k arr.toList).run P w=.ok r w:=by
     intro r hr;simp[Instr.findKey,aaX hd,hr]
    split at h
    ·rename_i i u hf
     cases h
     rw[Rp] at hf
     rcases vo hf with ⟨h1,_⟩|⟨i',u',e,h1,h2,h3,h4⟩
     ·cases h1
     ·cases h1
      simp only[adW] at h3
      refine .inr ⟨i,e,rfl,h3,fk _ h4,?_⟩
      have key:∀ (es:List MapEntry) (j i:Nat) (u:Value),Instr.findNow d k es j=some (some (i,u))→∃ e,es[i-j]?=some e∧j≤i∧Instr.sameNow d k e.key=some true:=by
       intro es
       induction es with
       |nil=>intro j i u h;cases h
       |cons e es ih=>
        intro j i u h
        simp only[Instr.findNow] at h
        split at h
        ·rename_i hs;cases h;exact⟨e,by simp,aaZ _,hs⟩
        ·obtain⟨e',g1,g2,g3⟩:=ih _ _ _ h
         exact⟨e',by rw[show i-j=(i-(j+1))+1 by omega];simpa using g1,by omega,g3⟩
        ·cases h
      obtain⟨e',g1,_,g3⟩:=key _ _ _ _ h4
      rw[adW,h3] at g1
      cases g1
      exact⟨K7 hb g3,N4 hb g3⟩
    ·rename_i hf
     cases h
     rw[Rp] at hf
     rcases vo hf with ⟨_,h2⟩|⟨i',u',e,h1,_⟩
     ·exact .inl ⟨rfl,fk _ h2⟩
     ·cases h1
    ·cases h
   ·cases h
 ·cases h
theorem Bv{σ:Sg}{w:World}{id b p c cl:Nat}{es:List (CV×CV×Nat)}(h:wS σ w id (.m es cl))(hb:σ id=some (b,p,c)):p=0∧∃ arr,w.heap[b]?=some (.map arr cl)∧uq σ es arr.toList:=by
 obtain⟨b',c',arr,h1,h2,h3⟩:=h
 rw[hb] at h1;cases h1
 exact⟨rfl,arr,h2,h3⟩
theorem KT{t:TypeId}{x k:Operand}{ok:Bool}(h:ni P t (ρ x) (ρ k) ok H=some v):ij P (.lookup t x k ok) ty ρ H v H:=
 ij.val fun σ w r hw hx=>by
  have h1:=hx x (by simp[Op.operands])
  have h2:=hx k (by simp[Op.operands])
  generalize ρ x=cx at h h1
  unfold ni at h
  split at h
  ·rename_i kt et id hu
   obtain⟨b,p,c,hb,fQ⟩:=h1
   split at h
   ·rename_i es cl hg
    have fq:=hw.mm id (hw.lt hb)
    rw[hg] at fq
    obtain⟨_,arr,ha,hr⟩:=Bv fq hb
    split at h
    ·rename_i i hf
     obtain⟨c1,c2⟩:=wX hf h2 hr arr.isEmpty w
     rcases c2 with ⟨c2,_⟩|⟨i',e,c2,c3,c4,_⟩
     ·cases c2
     ·cases c2
      obtain⟨ck,cx',d1,d2,d3⟩:=hr.get c3
      split at h
      ·rename_i e0 UI
       rw[hU,d1] at UI
       cases UI
       cases h
       cases ok with
       |false=>exact⟨e.val,fun _ _ _ _=>by simp[execOp,Instr.lookup,aaX hu,fQ,getObj,Sem.run,ha,c1,c4],d3⟩
       |true=>exact⟨.tuple #[e.val,.bool true],fun _ _ _ _=>by simp[execOp,Instr.lookup,aaX hu,fQ,getObj,Sem.run,ha,c1,c4],[e.val,.bool true],rfl,_,_,rfl,d3,_,_,rfl,rfl,rfl⟩
      ·cases h
    ·rename_i hf
     obtain⟨c1,c2⟩:=wX hf h2 hr arr.isEmpty w
     rcases c2 with ⟨_,c4⟩|⟨i',e,c2,_⟩
     ·split at h
      ·rename_i z hz
       cases h
       unfold zeroV at hz
       split at hz
       ·rename_i i hi
        split at hz
        ·rename_i y hy
         cases hz
         cases ok with
         |false=>exact⟨y,fun _ _ _ _=>by simp[execOp,Instr.lookup,aaX hu,fQ,getObj,Sem.run,ha,c1,c4,aX hi hy],EA σ y⟩
         |true=>exact⟨.tuple #[y,.bool false],fun _ _ _ _=>by simp[execOp,Instr.lookup,aaX hu,fQ,getObj,Sem.run,ha,c1,c4,aX hi hy],[y,.bool false],rfl,_,_,rfl,EA σ y,_,_,rfl,rfl,rfl⟩
        ·cases hz
       ·cases hz
      ·cases h
     ·cases c2
    ·cases h
   ·cases h
  ·cases h
theorem Qq{op:UnOp}{t:TypeId}{x:Operand}{y u:Value}(hy:Cb (ρ x)=some y)(hu:qM P (Op.unary op y)=some u):ij P (.unOp op t x) ty ρ H (xC u) H:=
 ij.val fun σ w r hw hx=>by
  have h1:=kW hy (hx x (by simp[Op.operands]))
  exact⟨u,fun _ _ _ _=>by simp[execOp,h1,mC P _ _ hu w],pB σ u⟩
theorem Nn{t:TypeId}{x:Operand}(h:Ei P t (ρ x) H=some (v,H')):ij P (.range t x) ty ρ H v H':=
 ij.of fun σ w r hw hx=>by
  have h1:=hx x (by simp[Op.operands])
  generalize ρ x=cx at h h1
  unfold Ei at h
  split at h
  ·rename_i s hu
   obtain⟨e1,e2,e3⟩:=Hp.qp h
   subst e3
   have fQ:r x=.string s:=h1
   obtain⟨aE,k1,k2,k3⟩:=hw.new (o:=.stringIter s 0) (y:=(0,0)) e1 (x:=.si s 0) (by simp) (fun aE hm hid=>⟨_,_,hid,by simp⟩)
   exact⟨.pointer (some ⟨w.heap.size,0,none⟩),_,aE,fun _ _ _ _=>by simp[execOp,Instr.range,aaX hu,fQ,ac7],k2,k3,by rw[e2];exact⟨_,_,_,k1,rfl⟩⟩
  ·rename_i kt et id hu
   obtain⟨b,p,c,hb,fQ⟩:=h1
   split at h
   ·rename_i es cl hg
    have fq:=hw.mm id (hw.lt hb)
    rw[hg] at fq
    obtain⟨_,arr,ha,hr⟩:=Bv fq hb
    obtain⟨e1,e2,e3⟩:=Hp.qp h
    subst e3
    obtain⟨aE,k1,k2,k3⟩:=hw.new (o:=.mapIter (some b) cl #[] cl) (y:=(0,0)) e1 (x:=.mi (some id) cl [] cl) (by simp) (fun aE hm hid=>⟨_,_,_,hid,by simp,(b,p,c),hm _ _ hb,rfl⟩)
    exact⟨.pointer (some ⟨w.heap.size,0,none⟩),_,aE,fun _ _ _ _=>by simp[execOp,Instr.range,aaX hu,fQ,getObj,Sem.run,ha,newObj],k2,k3,by rw[e2];exact⟨_,_,_,k1,rfl⟩⟩
   ·cases h
  ·cases h
end
end Go.Proofs.YtjdnbobilgamdaaGreatDoor.Ev
end
