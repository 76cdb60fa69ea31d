/- Statements and plain regions. Code and calls. Calls: plain ones, those that range over a map, those that ask for a capacity. Calls that ask for a capacity, calls of data alone; all calls. Calls of data alone; all calls. Conditions: none. -/
import Derived.Test.YtjdnbobilgamdaaGreatDoorE15
import Derived.Test.YtjdnbobilgamdaaGreatDoorAb7
import Derived.Lib.Overlaps
section
namespace Go.Proofs.YtjdnbobilgamdaaGreatDoor.Ev
open Go
open Ab (aO Hn oW)
def Out.kX:Out→Bool
 |.bad=>false
 |.or a b=>a.kX&&b.kX
 |_=>true
def nK:Out→Exit→Env→Hp→Prop
 |.n E H,e,E',H'=>e=.normal∧E'=E∧H'=H
 |.x id E H,e,E',H'=>e=.exit id∧E'=E∧H'=H
 |.r E H,e,E',H'=>e=.ret∧E'=E∧H'=H
 |.bad,_,_,_=>False
 |.or a b,e,E',H'=>nK a e E' H'∨nK b e E' H'
theorem Tv(K:Env→Hp→Out)(a b:Out):Out.uo K (.or a b)=.or (Out.uo K a) (Out.uo K b):=rfl
theorem wY{K:Env→Hp→Out}:∀ {o:Out},(Out.uo K o).kX=true→o.kX=true∧∀ E H,nK o .normal E H→(K E H).kX=true∧∀ e E' H',nK (K E H) e E' H'→nK (Out.uo K o) e E' H'
 |.n E H,h=>⟨rfl,fun E' H' ⟨_,h2,h3⟩=>by subst h2;subst h3;exact⟨h,fun _ _ _ hl=>hl⟩⟩
 |.x _ _ _,_=>⟨rfl,fun _ _ ⟨h1,_⟩=>by cases h1⟩
 |.r _ _,_=>⟨rfl,fun _ _ ⟨h1,_⟩=>by cases h1⟩
 |.bad,h=>by cases h
 |.or a b,h=>by
  rw[Tv] at h ⊢
  simp only[Out.kX,aaT] at h ⊢
  obtain⟨a1,a2⟩:=wY h.1
  obtain⟨b1,b2⟩:=wY h.2
  refine⟨⟨a1,b1⟩,fun E H hl=>?_⟩
  rcases hl with hl|hl
  ·exact⟨(a2 E H hl).1,fun e E' H' h=>.inl ((a2 E H hl).2 e E' H' h)⟩
  ·exact⟨(b2 E H hl).1,fun e E' H' h=>.inr ((b2 E H hl).2 e E' H' h)⟩
theorem ow{K:Env→Hp→Out}:∀ {o:Out} {e:Exit} {E:Env} {H:Hp},nK o e E H→e≠.normal→nK (Out.uo K o) e E H
 |.n _ _,_,_,_,⟨h1,_⟩,aR=>absurd h1 aR
 |.x _ _ _,_,_,_,h,_=>h
 |.r _ _,_,_,_,h,_=>h
 |.bad,_,_,_,h,_=>h
 |.or _ _,_,_,_,.inl h,aR=>.inl (ow h aR)
 |.or _ _,_,_,_,.inr h,aR=>.inr (ow h aR)
theorem Bx{id:Nat}:∀ {o:Out},(o.aD id).kX=true→o.kX=true
 |.n _ _,_=>rfl
 |.x _ _ _,_=>rfl
 |.r _ _,_=>rfl
 |.bad,h=>by cases h
 |.or a b,h=>by
  simp only[Out.aD,Out.kX,aaT] at h ⊢
  exact⟨Bx h.1,Bx h.2⟩
theorem By{id:Nat}:∀ {o:Out} {e:Exit} {E:Env} {H:Hp},nK o e E H→nK (o.aD id) (match e with|.exit i=>if i=id then .normal else .exit i|e=>e) E H
 |.n _ _,_,_,_,⟨h1,h2⟩=>by subst h1;exact⟨rfl,h2⟩
 |.r _ _,_,_,_,⟨h1,h2⟩=>by subst h1;exact⟨rfl,h2⟩
 |.bad,_,_,_,h=>h.elim
 |.or _ _,_,_,_,.inl h=>.inl (By h)
 |.or _ _,_,_,_,.inr h=>.inr (By h)
 |.x i _ _,_,_,_,⟨h1,h2⟩=>by
  subst h1
  simp only[Out.aD]
  by_cases hi:i=id
  ·subst hi;simp only[aej,abf,abh];exact⟨rfl,h2⟩
  ·have:Nat.beq i id=false:=by rw[←Bool.not_eq_true,abQ];exact hi
   simp only[this,abJ,aa7 hi];exact⟨rfl,h2⟩
theorem Ga{K:CV→Hp→Out}:∀ {l:List (CV×Hp)},(V6 K l).kX=true→l≠[]∧∀ q∈l,(K q.1 q.2).kX=true∧∀ e E H,nK (K q.1 q.2) e E H→nK (V6 K l) e E H
 |[],h=>by cases h
 |[x],h=>⟨by simp,fun q hq=>by simp at hq;subst hq;exact⟨h,fun _ _ _ hl=>hl⟩⟩
 |x::y::r,h=>by
  simp only[V6,Out.kX,aaT] at h
  obtain⟨_,ih⟩:=Ga h.2
  refine⟨by simp,fun q hq=>?_⟩
  simp only[abq] at hq
  rcases hq with rfl|hq
  ·exact⟨h.1,fun _ _ _ hl=>.inl hl⟩
  ·obtain⟨h1,h2⟩:=ih q (by simpa using hq)
   exact⟨h1,fun e E H hl=>.inr (h2 e E H hl)⟩
def jv(n:Nat)(σ:Sg)(E:Env)(H:Hp)(a:Act)(w:World):Prop:=
 a.defers=[]∧a.tmps.size=n∧aQ σ H w∧∀ t,t<512→RV σ ((iM CV 3 t).g E) (a.tmps.getD t undef)
theorem jv.put{n:Nat}{σ aE:Sg}{E:Env}{H H':Hp}{a:Act}{w w':World}(hs:jv n σ E H a w){dst:Option Nat}{v:CV}{rv:Value}(hd:∀ d,dst=some d→d<n∧n≤512)(hw:aQ aE H' w')(he:cG σ H w aE H' w')(hr:RV aE v rv):
  jv n aE (rA E (dst.map (bg CV 3)) v) H' (a.put dst rv) w':=by
 obtain⟨h1,h2,h3,h4⟩:=hs
 cases dst with
 |none=>exact⟨h1,h2,hw,fun t ht=>(h4 t ht).mono he.ext⟩
 |some d=>
  obtain⟨UE,Rs⟩:=hd d rfl
  refine⟨h1,by simpa[Act.put] using h2,hw,fun t ht=>?_⟩
  simp only[Option.map,rA,Act.put]
  by_cases Y4:t=d
  ·subst Y4
   rw[wZ]
   have:t<a.tmps.size:=by omega
   simpa[Array.getD,this] using hr
  ·rw[Bz _ _ _ _ _ (by rw[abX (by simpa using ht),abX (by simp;omega)];exact Y4)]
   have:(a.tmps.setIfInBounds d rv).getD t undef=a.tmps.getD t undef:=by
    simp[abB,abD (acN Y4)]
   rw[this];exact(h4 t ht).mono he.ext
def pO(P:Program)(f:FuncId)(vals:Array Value)(w:World)(K:Value→World→Prop):Prop:=
 match (callFunc f vals).run P w with
 |.ok (.value v) w'=>K v w'
 |.ok (.enter g args) w'=>Calls P g args w' fun e Cy=>∃ v,e=.returned v∧K v Cy
 |_=>False
def rC(P:Program)(rn:Rn):Prop:=∀ f xs H v H',rn f xs H=some (v,H')→∀ σ w (vals:Array Value),aQ σ H w→ig σ xs vals.toList→
 pO P f vals w fun rv w'=>∃ aE,aQ aE H' w'∧cG σ H w aE H' w'∧RV aE v rv
section
variable {C:Cx}{rn:Rn}{n:Nat}
theorem w7(pP:rC C.P rn){E:Env}{H H':Hp}{v:CV}{f:Operand}{xs:Array Operand}{ts:Array TypeId}{ty:TypeId}(h:uL rn E (dK f) (xs.toList.map dK) H=some (v,H')):
  ij C.P (.call ⟨.value f,xs,ts⟩) ty (eO E) H v H':=by
 intro σ w r pos after guard dst hw hx
 unfold uL at h
 split at h
 ·rename_i fn lK hf
  split at h
  ·rename_i g
   have h1:RV σ (eO E f) (r f):=hx f (by simp[Op.operands,Call.operands])
   have hf:eO E f=.f (.func g) lK:=hf
   rw[hf] at h1
   obtain⟨l,Su,hl⟩:=h1
   have Kr:(xs.toList.map dK).map (qo E)=xs.toList.map (eO E):=by rw[acB];rfl
   rw[Kr] at h
   have yL:ig σ (xs.toList.map (eO E)++lK) ((xs.map r)++(⟨l⟩:Array Value)).toList:=by
    rw[adS,Array.toList_map]
    exact(Ae fun x kB=>hx x (by simp only[Op.operands,Call.operands,adu];exact .inr (by simpa using kB))).append hl
   have dz:=pP g _ H v H' h σ w _ hw yL
   have he:(execOp r ⟨dst,.call ⟨.value f,xs,ts⟩,ty,pos,after,guard⟩).run C.P w=(callFunc g ((xs.map r)++(⟨l⟩:Array Value))).run C.P w:=by
    simp[execOp,resolve,Deferred.ofValue,Su,invoke]
   unfold pO at dz
   unfold aO
   rw[he]
   generalize (callFunc g ((xs.map r)++(⟨l⟩:Array Value))).run C.P w=res at dz
   cases res with
   |ok nx w'=>cases nx<;>first|exact dz|exact dz.elim
   |halt x w'=>exact dz.elim
  ·cases h
 ·cases h
theorem Jo{P:Program}{o:Op}{ty:TypeId}{x:X}{s:Bool}(h:comp P o ty=.nx x s):∃ y,o=.next y s∧dK y=x:=by
 cases o with
 |next y s'=>cases h;exact⟨y,rfl,rfl⟩
 |load t x=>
  simp only[comp] at h
  split at h<;>cases h
 |indexAddr t x i=>
  simp only[comp] at h
  split at h
  ·split at h<;>cases h
  ·cases h
 |fieldAddr t x k=>
  simp only[comp] at h
  split at h
  ·split at h
   ·rename_i s _
    cases hb:Nat.beq s 0<;>rw[hb] at h<;>cases h
   ·cases h
  ·cases h
 |call c=>
  simp only[comp] at h
  split at h
  ·cases h
  ·split at h
   ·rename_i t _
    cases hb:(iN P t).isSome<;>rw[hb] at h<;>cases h
   ·cases h
  ·cases h
 |_=>cases h
theorem t_{P:Program}{o:Op}{ty:TypeId}{f:X}{xs:List X}(h:comp P o ty=.cl f xs):∃ g ys ts,o=.call ⟨.value g,ys,ts⟩∧dK g=f∧ys.toList.map dK=xs:=by
 cases o with
 |load t x=>
  simp only[comp] at h
  split at h<;>cases h
 |indexAddr t x i=>
  simp only[comp] at h
  split at h
  ·split at h<;>cases h
  ·cases h
 |fieldAddr t x k=>
  simp only[comp] at h
  split at h
  ·split at h
   ·rename_i s _
    cases hb:Nat.beq s 0<;>rw[hb] at h<;>cases h
   ·cases h
  ·cases h
 |call c=>
  obtain⟨Jm,ys,ts⟩:=c
  simp only[comp] at h
  split at h
  ·cases h;exact⟨_,_,_,rfl,rfl,rfl⟩
  ·split at h
   ·rename_i t _
    cases hb:(iN P t).isSome<;>rw[hb] at h<;>cases h
   ·cases h
  ·cases h
 |_=>cases h
theorem Gb(j:J)(E:Env)(H:Hp)(K:Env→Hp→Out):(BA C rn j).f E H K=w8 C rn j E H K:=by
 have hv:∀ (d:S Env CV) (c:Option CV),(Option.rec (motive:=fun _=>Out) .bad (fun v=>K (d.s v E) H) c:Out)=Da (val H c) (some d) E K:=by
  intro d c;cases c<;>rfl
 obtain⟨g,i,d⟩:=j
 unfold BA
 split<;>rename_i h1 h2 h3<;>(try simp only at h1 h2 h3;subst h1;subst h2;subst h3)<;>first|rfl|exact hv _ _
theorem Qr(pP:rC C.P rn){ops:Array Oper}{o:Oper}{E:Env}{H:Hp}{K:Env→Hp→Out}(hg:(w8 C rn (ic C.P n ops o) E H K).kX=true){σ:Sg}{a:Act}{w:World}(hs:jv n σ E H a w)
  {next:Act→World→Prop}{Q:Exit→Act→World→Prop}
  (hn:∀ E' H' aE a' w',(K E' H').kX=true→(∀ e E2 H2,nK (K E' H') e E2 H2→nK (w8 C rn (ic C.P n ops o) E H K) e E2 H2)→jv n aE E' H' a' w'→cG σ H w aE H' w'→next a' w'):
  if Region.wanted o (yielded ops a.tmps) then o.wp C.P a w next Q else next (a.put o.dst undef) w:=by
 obtain⟨h1,h2,h3,h4⟩:=hs
 have hs:jv n σ E H a w:=⟨h1,h2,h3,h4⟩
 unfold ic at hg hn
 cases hd:uK n o.dst with
 |false=>rw[hd] at hg;cases hg
 |true=>
  rw[hd] at hg hn
  simp only[abf] at hg hn
  have Gc:∀ d,o.dst=some d→d<n∧n≤512:=by
   intro d Y5
   rw[Y5] at hd
   simp only[uK,aaT,abK,ab2] at hd
   exact hd
  have XR:∀ g,(UM C rn ⟨g,comp C.P o.op o.type,o.dst.map (bg CV 3)⟩ E H K).kX=true→
    (∀ E' H' aE a' w',(K E' H').kX=true→(∀ e E2 H2,nK (K E' H') e E2 H2→nK (UM C rn ⟨g,comp C.P o.op o.type,o.dst.map (bg CV 3)⟩ E H K) e E2 H2)→jv n aE E' H' a' w'→cG σ H w aE H' w'→next a' w')→o.wp C.P a w next Q:=by
   obtain⟨dst,op,ty,pos,after,guard⟩:=o
   simp only at Gc ⊢
   intro g hg hn
   have EX:∀ {r:Option (CV×Hp)},(∀ v H',r=some (v,H')→ij C.P op ty (eO E) H v H')→(Da r (dst.map (bg CV 3)) E K).kX=true→
     (∀ E' H' aE a' w',(K E' H').kX=true→(∀ e E2 H2,nK (K E' H') e E2 H2→nK (Da r (dst.map (bg CV 3)) E K) e E2 H2)→jv n aE E' H' a' w'→cG σ H w aE H' w'→next a' w')→Oper.wp C.P ⟨dst,op,ty,pos,after,guard⟩ a w next Q:=by
    intro r D0 hg hn
    rcases r with _|⟨v,H'⟩
    ·cases hg
    ·refine Ab.aO.wp (D0 v H' rfl σ w a.eval pos after guard dst h3 (fun x _=>vd h4 x)) ?_
     rintro rv w' ⟨aE,k1,k2,k3⟩
     exact hn _ _ aE _ _ hg (fun _ _ _ h=>h) (hs.put Gc k1 k2 k3) k2
   unfold UM at hg hn
   simp only at hg hn
   generalize hc:comp C.P op ty=ci at hg hn
   cases ci with
   |nx x s=>
    simp only at hg hn
    obtain⟨y,rfl,rfl⟩:=Jo hc
    obtain⟨aR,wy⟩:=Ga hg
    refine Ab.aO.wp (Qp (ty:=ty) (ρ:=eO E) (x:=y) (isS:=s) aR σ w a.eval pos after guard dst h3 (vd h4 y)) ?_
    rintro rv w' ⟨q,hq,aE,k1,k2,k3⟩
    obtain⟨g1,g2⟩:=wy q hq
    exact hn _ _ aE _ _ g1 g2 (hs.put Gc k1 k2 k3) k2
   |cl f xs=>
    simp only at hg hn
    obtain⟨g',ys,ts,rfl,rfl,rfl⟩:=t_ hc
    exact EX (fun v H' hr=>w7 pP hr) hg hn
   |_=>
    simp only at hg hn
    rw[←hc] at hg hn
    exact EX (fun v H' hr=>Jn hr (by simp)) hg hn
  cases Af:o.guard with
  |none=>
   simp only[Af] at hg hn
   have w9:Region.wanted o (yielded ops a.tmps)=true:=by simp[Region.wanted,Af]
   rw[w9,aa2 rfl]
   exact XR none hg hn
  |some p=>
   obtain⟨j,wt⟩:=p
   simp only[Af] at hg hn
   split at hg
   ·rename_i t ht
    simp only[ht] at hn
    cases aN:Nat.blt t 512 with
    |false=>rw[aN] at hg;cases hg
    |true=>
     rw[aN] at hg hn
     simp only[abf] at hg hn
     rw[abK] at aN
     have hr:=h4 t aN
     have hy:∀ b,a.tmps.getD t undef=.bool b→yielded ops a.tmps j=some b:=by
      intro b hb
      have Cd:t<a.tmps.size:=by
       rcases ab8 t a.tmps.size with h|h
       ·exact h
       ·simp[Array.getD,ad8.2 h,undef] at hb
      have:a.tmps[t]?=some (.bool b):=by
       simp[Array.getD,Cd] at hb;simp[Cd,hb]
      simp[yielded,ht,this]
     have Md:∀ x,a.tmps.getD t undef=.tuple x→yielded ops a.tmps j=none:=by
      intro x hx
      simp only[yielded,ht,aaQ]
      rcases ab8 t a.tmps.size with h|h
      ·have:a.tmps[t]?=some (.tuple x):=by
        simp[Array.getD,h] at hx;simp[h,hx]
       simp[this]
      ·simp[h]
     unfold w8 at hg hn
     simp only[want,yes] at hg hn
     generalize (iM CV 3 t).g E=cg at hr hg hn
     cases cg with
     |b q=>
      simp only at hg hn
      have XS:=hy q hr
      cases hq:(bif wt then q else not q) with
      |true=>
       rw[hq] at hg hn
       simp only[abf] at hg hn
       have w9:Region.wanted o (yielded ops a.tmps)=true:=by
        simp only[Region.wanted,Af,XS]
        cases wt<;>cases q<;>simp_all
       rw[w9,aa2 rfl]
       exact XR _ hg hn
      |false=>
       rw[hq] at hg hn
       simp only[abJ,abf] at hg hn
       have w9:Region.wanted o (yielded ops a.tmps)=false:=by
        simp only[Region.wanted,Af,XS]
        cases wt<;>cases q<;>simp_all
       rw[w9]
       simp only[aaU,abb]
       exact hn _ _ σ _ _ hg (fun _ _ _ h=>h) (hs.put Gc h3 (.refl _ _ _) rfl) (.refl _ _ _)
     |v x=>
      cases x with
      |tuple xs=>
       simp only[abJ,abf] at hg hn
       have w9:Region.wanted o (yielded ops a.tmps)=false:=by
        simp[Region.wanted,Af,Md xs hr]
       rw[w9]
       simp only[aaU,abb]
       exact hn _ _ σ _ _ hg (fun _ _ _ h=>h) (hs.put Gc h3 (.refl _ _ _) rfl) (.refl _ _ _)
      |_=>cases hg
     |_=>cases hg
   ·cases hg
theorem Db(j:KJ)(js:List KJ)(E:Env)(H:Hp):Cr (j::js) E H=j.f E H (Cr js):=rfl
theorem Jp(pP:rC C.P rn){ops:Array Oper}{No:Sg}{H0:Hp}{w0:World}{ot:Out}:∀ {os:List Oper} {E:Env} {H:Hp} {σ:Sg} {a:Act} {w:World},(Cr (os.map fun o=>BA C rn (ic C.P n ops o)) E H).kX=true→
  (∀ e E' H',nK (Cr (os.map fun o=>BA C rn (ic C.P n ops o)) E H) e E' H'→nK ot e E' H')→jv n σ E H a w→cG No H0 w0 σ H w→
  Hn C.P ops (fun e a' w'=>∃ aE E' H',nK ot e E' H'∧jv n aE E' H' a' w'∧cG No H0 w0 aE H' w') os a w
 |[],E,H,σ,a,w,_,hl,hs,he=>⟨σ,E,H,hl _ _ _ ⟨rfl,rfl,rfl⟩,hs,he⟩
 |o::os,E,H,σ,a,w,hg,hl,hs,he=>by
  simp only[abP,Db,Gb] at hg hl
  simp only[Hn]
  exact Qr pP hg hs fun E' H' aE a' w' k1 k2 k3 k4=>Jp pP k1 (fun e E2 H2 h=>hl e E2 H2 (k2 e E2 H2 h)) k3 (he.trans k4)
def zx(n:Nat)(σ:Sg)(H:Hp)(w:World)(o:Out):Exit→Act→World→Prop:=fun e a' w'=>∃ aE E' H',nK o e E' H'∧jv n aE E' H' a' w'∧cG σ H w aE H' w'
theorem KU(pP:rC C.P rn){id:Nat}{ops:Array Oper}{E:Env}{H:Hp}{σ:Sg}{a:Act}{w:World}(hg:(Cr (BB C n rn ops) E H).kX=true)(hs:jv n σ E H a w):
  (Code.region id ops false).wp C.P (zx n σ H w (Cr (BB C n rn ops) E H)) a w:=by
 refine wp_region ?_
 have:=oW (P:=C.P) (ops:=ops) (Q:=zx n σ H w (Cr (BB C n rn ops) E H)) ops.toList 0 (by simp) a w (Jp pP hg (fun _ _ _ h=>h) hs (.refl _ _ _))
 rwa[adm,←Array.length_toList]
end
end Go.Proofs.YtjdnbobilgamdaaGreatDoor.Ev
end
section
namespace Go.Proofs.YtjdnbobilgamdaaGreatDoor.Ev
open Go
open Ab (aq aX Addr.aT)
def ve(P:Program)(rn:Nat→Code→Env→Hp→Out):Prop:=∀ n c E H,(rn n c E H).kX=true→∀ σ a w,jv n σ E H a w→c.wp P (zx n σ H w (rn n c E H)) a w
theorem zx.mono{n:Nat}{σ Jq:Sg}{H H1:Hp}{w w1:World}{o o1:Out}(he:cG σ H w Jq H1 w1){e:Exit}(hl:∀ E' H',nK o1 e E' H'→nK o e E' H'){a':Act}{w':World}(h:zx n Jq H1 w1 o1 e a' w'):zx n σ H w o e a' w':=by
 obtain⟨aE,E',H',h1,h2,h3⟩:=h
 exact⟨aE,E',H',hl _ _ h1,h2,he.trans h3⟩
section
variable {C:Cx}{rn:Rn}
theorem Qs(pP:rC C.P rn)(n:Nat)(Qa:∀ id ops E H,Tw ops=true→((bif calm ops then RO (BB C n rn ops) else drawn C n rn ops) E H).kX=true→∀ σ a w,jv n σ E H a w→(Code.region id ops true).wp C.P (zx n σ H w ((bif calm ops then RO (BB C n rn ops) else drawn C n rn ops) E H)) a w):
  ∀ c E H,((lZ C n rn c).f E H).kX=true→∀ σ a w,jv n σ E H a w→c.wp C.P (zx n σ H w ((lZ C n rn c).f E H)) a w:=by
 intro c
 induction c with
 |skip=>intro E H _ σ a w hs;exact wp_skip ⟨σ,E,H,⟨rfl,rfl,rfl⟩,hs,.refl _ _ _⟩
 |label l=>intro E H _ σ a w hs;exact wp_label ⟨σ,E,H,⟨rfl,rfl,rfl⟩,hs,.refl _ _ _⟩
 |exit id=>intro E H _ σ a w hs;exact wp_exit ⟨σ,E,H,⟨rfl,rfl,rfl⟩,hs,.refl _ _ _⟩
 |ret=>intro E H _ σ a w hs;exact wp_ret ⟨σ,E,H,⟨rfl,rfl,rfl⟩,hs,.refl _ _ _⟩
 |region id ops draw=>
  intro E H hg σ a w hs
  cases draw with
  |false=>exact KU pP hg hs
  |true=>
   cases ho:Tw ops with
   |false=>
    simp only[lZ,ho,abf,abJ] at hg
    cases hg
   |true=>
    have he:(lZ C n rn (.region id ops true)).f E H=(bif calm ops then RO (BB C n rn ops) else drawn C n rn ops) E H:=by
     simp only[lZ,ho,abf]
     cases calm ops<;>rfl
    rw[he] at hg ⊢
    exact Qa id ops E H ho hg σ a w hs
 |seq x y Y6 Y7=>
  intro E H hg σ a w hs
  simp only[lZ] at hg ⊢
  obtain⟨g1,g2⟩:=wY (show(Out.uo (lZ C n rn y).f ((lZ C n rn x).f E H)).kX=true from hg)
  refine wp_seq (aea (Y6 E H g1 σ a w hs) ?_)
  rintro e a' w' ⟨aE,E',H',hl,h2,h3⟩
  cases e with
  |normal=>
   obtain⟨k1,k2⟩:=g2 E' H' hl
   exact aea (Y7 E' H' k1 aE a' w' h2) fun e a'' Cy h=>h.mono h3 (fun _ _=>k2 e _ _)
  |exit id=>exact⟨aE,E',H',ow hl (by simp),h2,h3⟩
  |goto l=>exact⟨aE,E',H',ow hl (by simp),h2,h3⟩
  |ret=>exact⟨aE,E',H',ow hl (by simp),h2,h3⟩
  |panic c=>exact⟨aE,E',H',ow hl (by simp),h2,h3⟩
  |outgrown=>exact⟨aE,E',H',ow hl (by simp),h2,h3⟩
 |cond c x y Y6 Y7=>
  intro E H hg σ a w hs
  have he:(lZ C n rn (.cond c x y)).f E H=Tx (eO E c) (lZ C n rn x).f (lZ C n rn y).f E H:=by simp only[lZ];rfl
  rw[he] at hg ⊢
  have hr:=vd hs.2.2.2 c
  generalize eO E c=cc at hg hr ⊢
  unfold Tx at hg ⊢
  split at hg
  ·rename_i q
   have hb:a.eval c=.bool q:=hr
   cases q with
   |true=>exact wp_cond_true hb (Y6 E H hg σ a w hs)
   |false=>exact wp_cond_false hb (Y7 E H hg σ a w hs)
  ·cases hg
 |block id b ih=>
  intro E H hg σ a w hs
  have he:(lZ C n rn (.block id b)).f E H=Out.aD id ((lZ C n rn b).f E H):=by simp only[lZ];rfl
  rw[he] at hg ⊢
  refine wp_block (aea (ih E H (Bx hg) σ a w hs) ?_)
  rintro e a' w' ⟨aE,E',H',hl,h2,h3⟩
  have vQ:=By (id:=id) hl
  cases e with
  |exit i=>
   simp only[Exit.inBlock]
   by_cases hi:i=id
   ·simp only[hi,abh] at vQ ⊢;exact⟨aE,E',H',vQ,h2,h3⟩
   ·simp only[hi,abb] at vQ ⊢;exact⟨aE,E',H',vQ,h2,h3⟩
  |normal=>exact⟨aE,E',H',vQ,h2,h3⟩
  |goto l=>exact⟨aE,E',H',vQ,h2,h3⟩
  |ret=>exact⟨aE,E',H',vQ,h2,h3⟩
  |panic c=>exact⟨aE,E',H',vQ,h2,h3⟩
  |outgrown=>exact⟨aE,E',H',vQ,h2,h3⟩
 |loop c ih=>
  intro E H hg σ a w hs
  have he:(lZ C n rn (.loop c)).f E H=Tz 5000 (lZ C n rn c).f E H:=by simp only[lZ];rfl
  rw[he] at hg ⊢
  intro b k cs
  have key:∀ m E H,(Tz m (lZ C n rn c).f E H).kX=true→∀ σ a w,jv n σ E H a w→
    ∃ e a' w',zx n σ H w (Tz m (lZ C n rn c).f E H) e a' w'∧Arrives C.P (lone (b.at a (.code c::.inLoop c::k)) cs w) b k cs e a' w':=by
   intro m
   induction m with
   |zero=>intro E H hg;cases hg
   |succ m ihm=>
    intro E H hg σ a w hs
    obtain⟨g1,g2⟩:=wY (show(Out.uo (Tz m (lZ C n rn c).f) ((lZ C n rn c).f E H)).kX=true from hg)
    obtain⟨e,uQ,uR,⟨aE,E',H',hl,h2,h3⟩,jj⟩:=ih E H g1 σ a w hs b (.inLoop c::k) cs
    have pass:e≠.normal→zx n σ H w (Tz (m+1) (lZ C n rn c).f E H) e uQ uR:=fun aR=>⟨aE,E',H',ow (K:=Tz m (lZ C n rn c).f) hl aR,h2,h3⟩
    cases e with
    |normal=>
     obtain⟨k1,k2⟩:=g2 E' H' hl
     obtain⟨Pu,SA,SB,L7,DO⟩:=ihm E' H' k1 aE uQ uR h2
     exact⟨Pu,SA,SB,L7.mono h3 (fun _ _=>k2 Pu _ _),.of_steps (Steps.trans jj (.one step_inLoop)) DO⟩
    |exit id=>exact⟨_,uQ,uR,pass (by simp),.pass (x:=.inLoop c) rfl (fun _ _=>.inl (by simp)) jj⟩
    |goto l=>exact⟨_,uQ,uR,pass (by simp),.pass (x:=.inLoop c) rfl (fun _ _=>.inl (by simp)) jj⟩
    |ret=>exact⟨_,uQ,uR,pass (by simp),.pass (x:=.inLoop c) rfl (fun _ _=>.inl (by simp)) jj⟩
    |panic ch=>exact⟨_,uQ,uR,pass (by simp),.pass (x:=.inLoop c) rfl (fun _ _=>.inl (by simp)) jj⟩
    |outgrown=>exact⟨_,uQ,uR,pass (by simp),.pass (x:=.inLoop c) rfl (fun _ _=>.inl (by simp)) jj⟩
  obtain⟨e,a',w',hq,jj⟩:=key 5000 E H hg σ a w hs
  exact⟨e,a',w',hq,.of_steps (.one step_loop) jj⟩
 |_=>intro E H hg;simp only[lZ] at hg;cases hg
theorem Qt{P:Program}{σ:Sg}{w:World}{id:Nat}{l:List CV}(he:wS σ w id (.k l)){b p c:Nat}(hb:σ id=some (b,p,c)){t:TypeId}{o:Nat}{v:CV}(h:C_ P t l o=some v):
  ∃ u,(loadVar t ⟨b,p+o,none⟩).run P w=.ok u w∧RV σ v u:=by
 unfold C_ at h
 split at h
 ·rename_i d hd
  cases Jr:nE d with
  |true=>
   rw[Jr] at h
   obtain⟨u,h3,h4⟩:=he.one hb (show nth l o=some v from h)
   exact⟨u,by simp[loadVar,Ab.hD hd,←po,Jr,h4],h3⟩
  |false=>
   rw[Jr] at h
   simp only[abJ] at h
   split at h
   ·rename_i n hn
    split at h
    ·rename_i q hq
     cases h
     obtain⟨f,f1,f2,_⟩:=he.XO hb hq
     obtain⟨i,hi,rfl⟩:=iO hn
     refine⟨.agg ((List.range i.size).map f).toArray,?_,⟨_,rfl,f1⟩⟩
     have:=run_loadCells (P:=P) w ⟨b,p+o,none⟩ i.size f (fun j hj=>by rw[Addr.aT];exact f2 j hj)
     simp[loadVar,Ab.hD hd,←po,Jr,aq hi,this]
    ·cases h
   ·cases h
 ·cases h
theorem Ah{P:Program}{n:Nat}{σ:Sg}{E:Env}{H:Hp}{a:Act}{w:World}(hs:jv n σ E H a w):∀ {rs:List ResultVar} {vs:List CV},KP P H E rs=some vs→∃ l,(rs.mapM (Ab.mT a.tmps)).run P w=.ok l w∧ig σ vs l
 |[],vs,h=>by cases h;exact⟨[],by simp,rfl⟩
 |.tmp t::rs,vs,h=>by
  simp only[KP] at h
  split at h
  ·rename_i l hl
   cases h
   obtain⟨m,h1,h2⟩:=Ah hs hl
   exact⟨a.tmps.getD t undef::m,by simp[ac4,Ab.mT,h1],_,_,rfl,vd hs.2.2.2 (.tmp t),h2⟩
  ·cases h
 |.cell x t::rs,vs,h=>by
  simp only[KP] at h
  split at h
  ·rename_i id o l hx hl
   split at h
   ·rename_i c hc
    split at h
    ·rename_i v hv
     cases h
     obtain⟨m,h1,h2⟩:=Ah hs hl
     have hr:=vd hs.2.2.2 (.tmp x)
     rw[hx] at hr
     obtain⟨b,p,c',hb,fQ⟩:=hr
     have fq:=hs.2.2.1.mm id (hs.2.2.1.lt hb)
     rw[rB hc] at fq
     obtain⟨u,e1,e2⟩:=Qt fq.rd hb hv
     have fQ:a.tmps.getD x undef=.pointer (some ⟨b,p+o,none⟩):=fQ
     exact⟨u::m,by simp[ac4,Ab.mT,fQ,asAddr,e1,h1],_,_,rfl,e2,h2⟩
    ·cases h
   ·cases h
  ·cases h
theorem Qu{P:Program}{n:Nat}{σ:Sg}{E:Env}{H:Hp}{a:Act}{w:World}(hs:jv n σ E H a w){fn:Func}{v:CV}(h:F2 P H fn E=some v):∃ rv,(results fn a.tmps).run P w=.ok rv w∧RV σ v rv:=by
 unfold F2 at h
 have hm:∀ {l:List Value},(fn.results.toList.mapM (Ab.mT a.tmps)).run P w=.ok l w→(results fn a.tmps).run P w=.ok (if h:l.toArray.size=1 then l.toArray[0] else .tuple l.toArray) w:=by
  intro l hl
  have:(fn.results.mapM (Ab.mT a.tmps)).run P w=.ok l.toArray w:=by
   rw[ad5]
   simp only[Sem.run_map,hl,aa3]
  simp only[Ab.A8,abl,this,aa3,abu]
 split at h
 ·rename_i x hx
  cases h
  obtain⟨l,h1,u,r,rfl,h2,rfl⟩:=Ah hs hx
  exact⟨u,by simpa using hm h1,h2⟩
 ·rename_i vs aR hx
  cases h
  obtain⟨l,h1,h2⟩:=Ah hs hx
  refine⟨.tuple l.toArray,?_,l,rfl,h2⟩
  have hl:=h2.length
  have:l.toArray.size≠1:=by
   intro hc
   simp only[adh] at hc
   rw[hc] at hl
   obtain⟨x,rfl⟩:=aef.1 hl
   exact aR x rfl
  have:=hm h1
  rw[dif_neg (by assumption)] at this
  exact this
 ·cases h
theorem Gd:∀ (xs:List CV) (i:Nat) (E:Env) (t:Nat),i+xs.length≤512→t<512→(iM CV 3 t).g (args xs i E)=if i≤t∧t<i+xs.length then xs.getD (t-i) .any else (iM CV 3 t).g E
 |[],i,E,t,_,_=>by rw[aa7 (by simp)];rfl
 |x::r,i,E,t,hle,ht=>by
  simp only[abp] at hle
  rw[args,Gd r (i+1) _ t (by omega) ht]
  by_cases h1:t=i
  ·subst h1
   rw[aa7 (by omega),aa2 (by simp),wZ]
   simp
  ·rw[Bz _ _ _ _ _ (by rw[abX (by simpa using ht),abX (by simp;omega)];exact h1)]
   by_cases h2:i+1≤t∧t<i+1+r.length
   ·rw[aa2 h2,aa2 (by simp;omega)]
    rw[show t-i=(t-(i+1))+1 by omega];simp
   ·rw[aa7 h2,aa7 (by simp;omega)]
theorem jv.enter{σ:Sg}{H:Hp}{w:World}{xs:List CV}{vals:Array Value}{n:Nat}(hw:aQ σ H w)(hr:ig σ xs vals.toList)(hn:xs.length≤n)(hm:n≤512):
  jv n σ (args xs 0 BC) H {tmps:=vals++Array.replicate (n-vals.size) undef,defers:=[] } w:=by
 have hl:=hr.length
 simp only[abL] at hl
 refine⟨rfl,by simp;omega,hw,fun t ht=>?_⟩
 rw[Gd _ _ _ _ (by omega) ht]
 by_cases h:0≤t∧t<0+xs.length
 ·rw[aa2 h]
  have hx:nth xs t=some (xs.getD (t-0) .any):=by
   rw[hU]
   have:t<xs.length:=by omega
   simp[List.getD,this]
  obtain⟨v,hv,Qv⟩:=hr.nth hx
  rw[aa0] at hv
  have:(vals++Array.replicate (n-vals.size) undef).getD t undef=v:=by
   simp[abB,ab4 (show t<vals.size by omega),hv]
  rw[this];exact Qv
 ·rw[aa7 h]
  have h1:(iM CV 3 t).g BC=.v undef:=Js _ _ _
  rw[h1]
  show _=undef
  rw[abB,adT (by omega)]
  by_cases h2:t-vals.size<n-vals.size
  ·simp[h2]
  ·rw[Array.getElem?_eq_none (by simp;omega)];rfl
theorem x8{P:Program}(hN:∀ (f:FuncId) (fn:Func),P.funcs[f]?=some fn→(fn.name== "runtime.NumGoroutine")=false){f:FuncId}{fn:Func}{c:Code}(hf:P.funcs[f]?=some fn)(hb:fn.body=some c)(vals:Array Value)(w:World):
  (callFunc f vals).run P w=.ok (.enter f vals) w:=by
 have h1:(program).run P w=.ok P w:=rfl
 simp only[callFunc,abl,h1,aa3,hf,hN f fn hf,hb,Option.isNone_some,aaU,abb,abu]
theorem Ge{run:Nat→Code→Env→Hp→Out}(pC:ve C.P run)(hN:∀ (f:FuncId) (fn:Func),C.P.funcs[f]?=some fn→(fn.name== "runtime.NumGoroutine")=false){f:FuncId}{fn:Func}{c:Code}(hf:C.P.funcs[f]?=some fn)(hb:fn.body=some c)
  {xs:List CV}{H:Hp}(hl:xs.length≤fn.ntmps)(hm:fn.ntmps≤512)(hg:(run fn.ntmps c (args xs 0 BC) H).kX=true)
  (Y8:∀ e E' H',nK (run fn.ntmps c (args xs 0 BC) H) e E' H'→(e=.normal∨e=.ret)∧∃ v,F2 C.P H' fn E'=some v){σ:Sg}{w:World}{vals:Array Value}(hw:aQ σ H w)(hr:ig σ xs vals.toList)
  {K:Value→World→Prop}(hK:∀ e E' H' aE w' v rv,nK (run fn.ntmps c (args xs 0 BC) H) e E' H'→F2 C.P H' fn E'=some v→aQ aE H' w'→cG σ H w aE H' w'→RV aE v rv→K rv w'):pO C.P f vals w K:=by
 unfold pO
 rw[x8 hN hf hb]
 refine calls_of_wp hf hb (aea (pC _ c _ H hg σ _ w (jv.enter hw hr hl hm)) ?_)
 rintro e a' w' ⟨aE,E',H',hlf,hs,he⟩
 obtain⟨hee,v,hv⟩:=Y8 e E' H' hlf
 obtain⟨rv,e1,e2⟩:=Qu hs hv
 have fin:a'.defers=[]∧∃ v,(results fn a'.tmps).run C.P w'=.ok v w'∧∃ v1,Ending.returned v=.returned v1∧K v1 w':=
  ⟨hs.1,rv,e1,rv,rfl,hK e E' H' aE w' v rv hlf hv hs.2.2.1 he e2⟩
 rcases hee with rfl|rfl
 ·exact fin
 ·exact fin
end
end Go.Proofs.YtjdnbobilgamdaaGreatDoor.Ev
end
section
namespace Go.Proofs.YtjdnbobilgamdaaGreatDoor.Ev
open Go
open Ab (aq aX Addr.aT)
theorem BD:∀ {a b:List UInt8},Ai a b=true→a=b
 |[],[],_=>rfl
 |[],_::_,h=>by cases h
 |_::_,[],h=>by cases h
 |x::a,y::b,h=>by
  simp only[Ai,aaT,abQ] at h
  rw[BD h.2,UInt8.toNat_inj.1 h.1]
mutual
theorem Aj:∀ {a b:CV},same a b=true→a=b:=by
 intro a b h
 unfold same at h
 split at h
 ·simp only[aaT,Np,ad6] at h
  rw[Nq h.1,h.2]
 ·rename_i p q;cases p<;>cases q<;>first|rfl|cases h
 ·rename_i x y
  have:=BD h
  cases x;cases y
  simp only at this
  congr 2
  exact ByteArray.ext (Array.toList_inj.1 this)
 ·rfl
 ·simp only[aaT,abQ] at h;obtain⟨⟨⟨h1,h2⟩,h3⟩,h4⟩:=h;subst h1;subst h2;subst h3;subst h4;rfl
 ·simp only[aaT,abQ] at h;obtain⟨⟨⟨h1,h2⟩,h3⟩,h4⟩:=h;subst h1;subst h2;subst h3;subst h4;rfl
 ·simp only[aaT,abQ] at h;obtain⟨h1,h2⟩:=h;subst h1;subst h2;rfl
 ·rw[abQ] at h;subst h;rfl
 ·rw[pD h]
 ·rw[pD h]
 ·rfl
 ·cases h
theorem pD:∀ {a b:List CV},sR a b=true→a=b:=by
 intro a b h
 unfold sR at h
 split at h
 ·rfl
 ·simp only[aaT] at h
  rw[Aj h.1,pD h.2]
 ·cases h
end
mutual
theorem RV.below{σ aE:Sg}{n:Nat}(hs:∀ id,id<n→aE id=σ id):∀ {c:CV} {y:Value},x9 n c=true→RV σ c y→RV aE c y
 |.i _ _,_,_,hr=>hr
 |.b _,_,_,hr=>hr
 |.v _,_,_,hr=>hr
 |.cp _,_,_,hr=>hr
 |.any,_,_,_=>trivial
 |.sl _ _ _ _,_,h,⟨b,p,c,h1,h2⟩=>⟨b,p,c,(hs _ (by simpa[x9,abK] using h)).trans h1,h2⟩
 |.so _ _ _ _,_,h,⟨b,p,c,cap,a,h1,h2⟩=>⟨b,p,c,cap,a,(hs _ (by simpa[x9,abK] using h)).trans h1,h2⟩
 |.p _ _,_,h,⟨b,p,c,h1,h2⟩=>⟨b,p,c,(hs _ (by simpa[x9,abK] using h)).trans h1,h2⟩
 |.m _,_,h,⟨b,p,c,h1,h2⟩=>⟨b,p,c,(hs _ (by simpa[x9,abK] using h)).trans h1,h2⟩
 |.f _ _,_,h,⟨l,h1,h2⟩=>⟨l,h1,ig.below hs h h2⟩
 |.a _,_,h,⟨l,h1,h2⟩=>⟨l,h1,ig.below hs h h2⟩
 |.t _,_,h,⟨l,h1,h2⟩=>⟨l,h1,ig.below hs h h2⟩
theorem ig.below{σ aE:Sg}{n:Nat}(hs:∀ id,id<n→aE id=σ id):∀ {c:List CV} {y:List Value},pa n c=true→ig σ c y→ig aE c y
 |[],_,_,hr=>hr
 |_::_,_,h,⟨y,r,h1,h2,h3⟩=>by
  simp only[pa,aaT] at h
  exact⟨y,r,h1,RV.below hs h.1 h2,ig.below hs h.2 h3⟩
end
theorem aQ.floor{σ:Sg}{H:Hp}{w:World}(hw:aQ σ H w){f:Nat}(h1:H.fl≤f)(h2:f≤H.n):aQ σ ⟨H.h,H.n,f⟩ w:=
 ⟨hw.nn,hw.le,h2,hw.mm,fun id id' x x' a b c=>hw.sep id id' x x' a b (abE h1 c)⟩
theorem aQ.lower{σ aE:Sg}{H H':Hp}{w w':World}(hw:aQ σ H w)(lN:aQ aE H' w')(he:cG σ ⟨H.h,H.n,H.n⟩ w aE H' w'):
  aQ aE ⟨H'.h,H'.n,H.fl⟩ w'∧cG σ H w aE ⟨H'.h,H'.n,H.fl⟩ w':=by
 have H8:∀ id,id<H.n→H'.get id=H.get id:=fun id hi=>he.low id hi
 have hS:∀ id,id<H.n→aE id=σ id:=fun id hi=>he.Cn id hi
 have hblk:∀ id x,id<H.n→(H.get id).live=true→σ id=some x→x.1<w.heap.size:=fun id x hi hl hx=>by
  obtain⟨z,h1,h2⟩:=(hw.mm id hi).aD hl
  rw[hx] at h1;cases h1;exact h2
 have qk:∀ id x,H.n≤id→id<H'.n→(H'.get id).live=true→aE id=some x→w.heap.size≤x.1:=fun id x h1 h2 h3 h4=>by
  rcases ab8 x.1 w.heap.size with h|h
  ·obtain⟨i0,x0,k1,k2,_⟩:=he.Bs id x h2 h1 h3 h4 h
   exact absurd k1 (ad8.2 k2)
  ·exact h
 refine⟨⟨lN.nn,lN.le,abE hw.fl he.n,lN.mm,?_⟩,⟨he.same,he.size,he.ext,he.aY,fun id hi=>hS id (aa_ hi hw.fl),he.n,rfl,fun id hi=>H8 id (aa_ hi hw.fl),?_,?_,?_⟩⟩
 ·intro id id' x x' h1 h2 h3 h4 h5 h6 h7 h8
  rcases ab8 id H.n with a|a<;>rcases ab8 id' H.n with b|b
  ·exact hw.sep id id' x x' a b h3 (by rw[←H8 id a];exact h4) (by rw[←H8 id' b];exact h5) (by rw[←hS id a];exact h6) (by rw[←hS id' b];exact h7) h8
  ·exfalso
   have k1:=hblk id x a (by rw[←H8 id a];exact AO.jK h4) (by rw[←hS id a];exact h6)
   have k2:=qk id' x' b h2 h5 h7
   omega
  ·exfalso
   have k1:=hblk id' x' b (by rw[←H8 id' b];exact h5) (by rw[←hS id' b];exact h7)
   have k2:=qk id x a h1 (AO.jK h4) h6
   omega
  ·exact lN.sep id id' x x' h1 h2 (by rw[he.fl];exact a) h4 h5 h6 h7 h8
 ·intro b hb _
  exact he.frame b hb fun id x h1 h2=>absurd h1 (ad8.2 h2)
 ·intro id x h1 h2 h3 h4 h5
  rcases ab8 id H.n with a|a
  ·exact⟨id,x,a,h2,by rw[←H8 id a];exact h3,by rw[←hS id a];exact h4,rfl⟩
  ·have:=qk id x a h1 (AO.jK h3) h4;omega
 ·intro id x h1 h2 h3 h4 h5
  rcases ab8 id H.n with a|a
  ·exact⟨id,x,a,h2,by rw[←H8 id a];exact h3,by rw[←hS id a];exact h4,rfl⟩
  ·have:=qk id x a h1 h3 h4;omega
theorem aQ.Nr{σ Ns:Sg}{H Hb H2:Hp}{w w':World}{B:Nat→Prop}{i k s:Nat}{l:List CV}{rv:Value}(hb:aQ σ Hb w)(bK:cG σ H w σ Hb w)(h2:aQ Ns H2 w')
  (n4:w'.os=w.os∧w'.tape=w.tape∧w'.output=w.output)(pX:w.heap.size≤w'.heap.size)(hS:∀ id,id<Hb.n→Ns id=σ id)(hn:Hb.n<4096)(hi:Hb.n≤i)(hg:H2.get i=.c l)(hl:pa Hb.n l=true)
  (tr:∀ b,b<w.heap.size→¬B b→w'.heap[b]?=w.heap[b]?)(hB:∀ b,B b→∃ sd x0,sd<H.n∧H.fl≤sd∧(H.get sd).GV=true∧σ sd=some x0∧x0.1=b)
  (hBb:∀ j z,j<Hb.n→(Hb.get j).live=true→σ j=some z→¬B z.1)(hy:∀ y,Ns i=some y→y.1<w.heap.size→B y.1)(Qv:RV Ns (.so i 0 k s) rv):
  ∃ GW,aQ GW ⟨(bg AO 4 Hb.n).s (.c l) Hb.h,Hb.n+1,Hb.fl⟩ w'∧cG σ H w GW ⟨(bg AO 4 Hb.n).s (.c l) Hb.h,Hb.n+1,Hb.fl⟩ w'∧RV GW (.so Hb.n 0 k s) rv:=by
 have ax:∀ j,j<Hb.n→(⟨(bg AO 4 Hb.n).s (.c l) Hb.h,Hb.n+1,Hb.fl⟩:Hp).get j=Hb.get j:=fun j hj=>Hp.dF _ _ _ _ _ _ (by omega) hn (by omega)
 have jJ:(⟨(bg AO 4 Hb.n).s (.c l) Hb.h,Hb.n+1,Hb.fl⟩:Hp).get Hb.n=.c l:=Hp.get_set_same _ _ _ _ _
 obtain⟨b,p,c,cap,q,wV,wC⟩:=Qv
 have J7:=h2.lt wV
 have fq:=h2.mm i J7
 rw[hg] at fq
 let GW:Sg:=fun j=>if j=Hb.n then some (b,p,c) else σ j
 have r8:∀ id z,σ id=some z→GW id=some z:=by
  intro id z hz
  have:id≠Hb.n:=fun hc=>by rw[hb.nn id (by omega)] at hz;cases hz
  simp[GW,this,hz]
 have Cs:∀ j,j<Hb.n→GW j=σ j:=fun j hj=>by simp[GW,Nat.ne_of_lt hj]
 have hblk:∀ j x,j<Hb.n→(Hb.get j).live=true→σ j=some x→x.1<w.heap.size:=fun j x hj H9 hx=>by
  obtain⟨z,k1,k2⟩:=(hb.mm j hj).aD H9
  rw[hx] at k1;cases k1;exact k2
 have aR:∀ j x,j<Hb.n→(Hb.get j).live=true→σ j=some x→x.1≠b:=fun j x hj H9 hx hc=>by
  have k1:=hblk j x hj H9 hx
  have k2:=hy _ wV (by rw[←hc];exact k1)
  exact hBb j x hj H9 hx (by rw[hc];exact k2)
 refine⟨GW,⟨fun j hj=>?_,hn,ad9 hb.fl,fun j hj=>?_,?_⟩,⟨n4,pX,r8,fun j hj hr=>?_,fun j hj=>?_,?_,bK.fl,fun j hj=>?_,fun b' dD ho=>?_,?_,?_⟩,b,p,c,cap,q,by simp[GW],wC⟩
 ·have:j≠Hb.n:=by simp at hj;omega
  simp only[GW,this,abb];exact hb.nn j (by simp at hj;omega)
 ·by_cases h:j=Hb.n
  ·subst h
   rw[jJ]
   obtain⟨b',p',c',arr,et,f1,f2,f3,f4,f5⟩:=fq
   rw[wV] at f1;cases f1
   exact⟨b,p,c,arr,et,by simp[GW],f2,f3,f4,ig.below (fun id hid=>(Cs id hid).trans (hS id hid).symm) hl f5⟩
  ·have ph:j<Hb.n:=by simp at hj;omega
   rw[ax j ph]
   exact(hb.mm j ph).mono r8 (fun hr=>by have:=hb.mm j ph;rw[hr] at this;rw[Cs j ph];exact this)
    (fun z hz H9=>tr _ (hblk j z ph H9 hz) (hBb j z ph H9 hz))
 ·intro j j' x x' a1 a2 a3 a4 a5 a6 a7 a8
  by_cases e:j=Hb.n<;>by_cases e':j'=Hb.n
  ·omega
  ·exfalso
   have ph:j'<Hb.n:=by simp at a2;omega
   rw[ax j' ph] at a5
   rw[Cs j' ph] at a7
   simp only[GW,e,abh,aaW] at a6
   exact aR j' x' ph a5 a7 (by rw[←a8,←a6])
  ·exfalso
   have hj:j<Hb.n:=by simp at a1;omega
   rw[ax j hj] at a4
   rw[Cs j hj] at a6
   simp only[GW,e',abh,aaW] at a7
   exact aR j x hj (AO.jK a4) a6 (by rw[a8,←a7])
  ·have k1:j<Hb.n:=by simp at a1;omega
   have k2:j'<Hb.n:=by simp at a2;omega
   rw[ax j k1] at a4
   rw[ax j' k2] at a5
   rw[Cs j k1] at a6
   rw[Cs j' k2] at a7
   exact hb.sep j j' x x' k1 k2 a3 a4 a5 a6 a7 a8
 ·have ph:j<Hb.n:=aa_ hj bK.n
  exact⟨Cs j ph,by rw[ax j ph];exact(bK.aY j hj hr).2⟩
 ·exact Cs j (by have:=hb.fl;rw[bK.fl] at this;omega)
 ·exact abE bK.n (adF _)
 ·have ph:j<Hb.n:=by have:=hb.fl;rw[bK.fl] at this;omega
  rw[ax j ph];exact bK.low j hj
 ·refine tr b' dD fun Y9=>?_
  obtain⟨i0,x0,k1,k2,k3,k4,k5⟩:=hB b' Y9
  exact ho i0 x0 k1 k2 k3 k4 k5
 ·intro j x a1 a2 a3 a4 a5
  by_cases e:j=Hb.n
  ·simp only[GW,e,abh,aaW] at a4
   exact hB x.1 (hy x (by rw[wV,a4]) a5)
  ·have hj:j<Hb.n:=by simp at a1;omega
   rw[ax j hj] at a3
   rw[Cs j hj] at a4
   exact bK.own j x hj a2 a3 a4 a5
 ·intro j x a1 a2 a3 a4 a5
  by_cases e:j=Hb.n
  ·simp only[GW,e,abh,aaW] at a4
   obtain⟨i0,x0,k1,k2,k3,k4⟩:=hB x.1 (hy x (by rw[wV,a4]) a5)
   exact⟨i0,x0,k1,k2,AO.jK k3,k4⟩
  ·have hj:j<Hb.n:=by simp at a1;omega
   rw[ax j hj] at a3
   rw[Cs j hj] at a4
   exact bK.Bs j x hj a2 a3 a4 a5
section
variable {C:Cx}{run:Nat→Code→Env→Hp→Out}
theorem Gf{n:Nat}{x v:CV}{H:Hp}{l:List CV}(h:canon n x H=some (v,l)):∃ i k s,x=.so i 0 k s∧v=.so n 0 k s∧n≤i∧H.get i=.c l∧pa n l=true:=by
 unfold canon at h
 split at h
 ·rename_i i k s
  cases hb:Nat.ble n i with
  |false=>rw[hb] at h;cases h
  |true=>
   rw[hb] at h
   rw[ab2] at hb
   simp only[abf] at h
   split at h
   ·rename_i m hm
    cases hl:pa n m with
    |false=>rw[hl] at h;cases h
    |true=>rw[hl] at h;cases h;exact⟨i,k,s,rfl,rfl,hb,rB hm,hl⟩
   ·cases h
 ·cases h
theorem Nt{fn:Func}{o:Out}{v:CV}{H':Hp}(h:fin C fn o=some (v,H')):o.kX=true∧∀ e E2 H2,nK o e E2 H2→(e=.normal∨e=.ret)∧F2 C.P H2 fn E2=some v∧H2=H':=by
 unfold fin at h
 split at h
 ·split at h
  ·rename_i u hu;cases h;exact⟨rfl,fun e E2 H2 ⟨a,b,c⟩=>by subst a;subst b;subst c;exact⟨.inl rfl,hu,rfl⟩⟩
  ·cases h
 ·split at h
  ·rename_i u hu;cases h;exact⟨rfl,fun e E2 H2 ⟨a,b,c⟩=>by subst a;subst b;subst c;exact⟨.inr rfl,hu,rfl⟩⟩
  ·cases h
 ·cases h
theorem x_{n:Nat}{fn:Func}:∀ {o:Out} {v:CV} {l:List CV},H_ C n fn o=some (v,l)→o.kX=true∧∀ e E2 H2,nK o e E2 H2→(e=.normal∨e=.ret)∧∃ u,F2 C.P H2 fn E2=some u∧canon n u H2=some (v,l)
 |.n E H,v,l,h=>by
  simp only[H_] at h
  split at h
  ·rename_i u hu;exact⟨rfl,fun e E2 H2 ⟨a,b,c⟩=>by subst a;subst b;subst c;exact⟨.inl rfl,u,hu,h⟩⟩
  ·cases h
 |.r E H,v,l,h=>by
  simp only[H_] at h
  split at h
  ·rename_i u hu;exact⟨rfl,fun e E2 H2 ⟨a,b,c⟩=>by subst a;subst b;subst c;exact⟨.inr rfl,u,hu,h⟩⟩
  ·cases h
 |.x _ _ _,_,_,h=>by cases h
 |.bad,_,_,h=>by cases h
 |.or a b,v,l,h=>by
  simp only[H_] at h
  split at h
  ·rename_i v1 l1 v2 l2 ha hb
   cases hc:same v1 v2&&sR l1 l2 with
   |false=>rw[hc] at h;cases h
   |true=>
    rw[hc] at h;cases h
    simp only[aaT] at hc
    obtain rfl:=Aj hc.1
    obtain rfl:=pD hc.2
    obtain⟨a1,a2⟩:=x_ ha
    obtain⟨b1,b2⟩:=x_ hb
    refine⟨by simp[Out.kX,a1,b1],fun e E2 H2 hl=>?_⟩
    rcases hl with hl|hl
    ·exact a2 e E2 H2 hl
    ·exact b2 e E2 H2 hl
  ·cases h
structure KV(C:Cx):Prop where
 nm:∀ (f:FuncId) (fn:Func),C.P.funcs[f]?=some fn→(fn.name== "runtime.NumGoroutine")=false
 ov:∀ f,sS C.ov f=true→∃ tS tR e i,(∀ (a:Array Value) (w:World),(callFunc f a).run C.P w=((Extern.SlicesOverlaps.overlaps #[tS,tS] #[tR] a).run C.P w).andThen fun v w'=>.ok (.value v) w')∧C.P.underlying tS=some (.slice e)∧C.P.info? e=some i
 mix:C.P.follows .mixedOrders=true
theorem Nu(hC:KV C){f:Nat}{xs:List CV}{H H':Hp}{v:CV}(h:Nv C f xs H=some (v,H')){σ:Sg}{w:World}{vals:Array Value}(hw:aQ σ H w)(hr:ig σ xs vals.toList):
  pO C.P f vals w fun rv w'=>∃ aE,aQ aE H' w'∧cG σ H w aE H' w'∧RV aE v rv:=by
 unfold Nv at h
 split at h
 ·rename_i i o1 m c1 j o2 n s
  cases hb:sS C.ov f&&!Nat.beq i j&&Nat.blt 0 m&&Nat.blt 0 n&&Nat.ble H.fl j with
  |false=>rw[hb] at h;cases h
  |true=>
   rw[hb] at h
   simp only[abf] at h
   simp only[aaT,abK,ab2,abC] at hb
   obtain⟨⟨⟨⟨hov,aR⟩,hm⟩,hn⟩,Aw⟩:=hb
   have aR:i≠j:=fun hc=>by rw[hc] at aR;simp at aR
   split at h
   ·rename_i l1 l2 hl1 OR
    cases h
    obtain⟨y1,r1,e1,hy1,y2,r2,e2,Md,e3⟩:=hr
    subst e2
    subst e3
    obtain⟨b1,p1,d1,k1,rfl⟩:=hy1
    obtain⟨b2,p2,d2,cap,q,k2,rfl,hc,hle,pV,ji,hq⟩:=Md
    have hi:=hw.lt k1
    have hj:=hw.lt k2
    have g1:=rB hl1
    have g2:=rB OR
    have Y_:b1≠b2:=fun hc=>aR (hw.sep j i (b2,p2,d2) (b1,p1,d1) hj hi Aw (by rw[g2];rfl) (by rw[g1];rfl) k2 k1 hc.symm).symm
    have n1:=hw.mm i hi
    rw[g1] at n1
    have n2:=hw.mm j hj
    rw[g2] at n2
    obtain⟨x1,x2,x3,dx,sj,f1,f2,f3,f4,_⟩:=n1
    rw[k1] at f1;cases f1
    obtain⟨z1,z2,z3,ki,et2,g1',g2',g3,g4,_⟩:=n2
    rw[k2] at g1';cases g1'
    obtain⟨tS,tR,e,ie,ho,hu,im⟩:=hC.ov f hov
    have Y':ki.size≠0:=by
     have:0<d2:=by rw[←hc];exact adP (by omega) pV
     omega
    have dz:=Lib.run_overlaps_apart (P:=C.P) w tS tR e hu ie.size (fun w=>aq im w) ⟨b1,p1+o1,none⟩ ⟨b2,q,none⟩ m c1 n cap Y_ sj et2 dx.size ki.size
     (by simp[World.shape?,f2]) (by simp[World.shape?,g2']) Y' (by simp[World.frozen?,f2]) (by simp[World.frozen?,f2])
    have Nw:vals=#[.slice (some ⟨b1,p1+o1,none⟩) m c1,.slice (some ⟨b2,q,none⟩) n cap]:=by
     rw[←Array.toArray_toList (xs:=vals),e1]
    unfold pO
    rw[ho,Nw,dz]
    exact⟨σ,hw,.refl _ _ _,rfl⟩
   ·cases h
 ·cases h
theorem sU(hC:KV C)(pC:ve C.P run){f:Nat}{xs:List CV}{H H':Hp}{v:CV}(h:w_ C run f xs H=some (v,H')){σ:Sg}{w:World}{vals:Array Value}(hw:aQ σ H w)(hr:ig σ xs vals.toList):
  pO C.P f vals w fun rv w'=>∃ aE,aQ aE H' w'∧cG σ H w aE H' w'∧RV aE v rv:=by
 unfold w_ at h
 split at h
 ·rename_i fn hf
  split at h
  ·rename_i c hb
   cases hn:Nat.ble xs.length fn.ntmps&&Nat.ble fn.ntmps 512 with
   |false=>rw[hn] at h;cases h
   |true=>
    rw[hn] at h
    simp only[abf] at h
    simp only[aaT,ab2] at hn
    obtain⟨g1,g2⟩:=Nt h
    refine Ge pC hC.nm hf hb hn.1 hn.2 g1 (fun e E' H2 hl=>⟨(g2 e E' H2 hl).1,v,(g2 e E' H2 hl).2.1⟩) hw hr ?_
    intro e E' H2 aE w' v' rv hl hv k1 k2 k3
    obtain⟨_,e1,rfl⟩:=g2 e E' H2 hl
    rw[e1] at hv;cases hv
    exact⟨aE,k1,k2,k3⟩
  ·exact Nu hC h hw hr
 ·cases h
theorem Nx(hC:KV C)(pC:ve C.P run){f:Nat}{xs:List CV}{H H':Hp}{v:CV}(h:Ny C run f xs H=some (v,H')){σ:Sg}{w:World}{vals:Array Value}(hw:aQ σ H w)(hr:ig σ xs vals.toList):
  pO C.P f vals w fun rv w'=>∃ aE,aQ aE H' w'∧cG σ H w aE H' w'∧RV aE v rv:=by
 unfold Ny at h
 split at h
 ·rename_i fn hf
  split at h
  ·rename_i c hb
   cases hn:Nat.ble xs.length fn.ntmps&&Nat.ble fn.ntmps 512 with
   |false=>rw[hn] at h;cases h
   |true=>
    rw[hn] at h
    simp only[abf] at h
    simp only[aaT,ab2] at hn
    split at h
    ·rename_i v0 l Za
     obtain⟨n1,n2,n3⟩:=Hp.qp h
     subst n3
     obtain⟨g1,g2⟩:=x_ Za
     refine Ge pC hC.nm hf hb hn.1 hn.2 g1 (fun e E' H2 hl=>by obtain⟨a,u,b,_⟩:=g2 e E' H2 hl;exact⟨a,u,b⟩) (hw.floor hw.fl (aaZ _)) hr ?_
     intro e E' H2 Ns w' v' rv hl hv k1 k2 k3
     obtain⟨_,u,e1,e2⟩:=g2 e E' H2 hl
     rw[e1] at hv;cases hv
     obtain⟨i,k,s,rfl,Zb,hi,hg,Ly⟩:=Gf e2
     rw[n2,Zb]
     exact hw.Nr (B:=fun _=>False) (.refl _ _ _) k1 k2.same k2.size k2.Cn n1 hi hg Ly (fun b hb _=>k2.frame b hb fun id x h1 h2=>absurd h1 (ad8.2 h2)) (fun _ h=>h.elim) (fun _ _ _ _ _ h=>h)
      (fun y hy aN=>by
       obtain⟨b,p,c,cap,q,wV,_⟩:=k3
       obtain⟨i0,x0,a1,a2,_⟩:=k2.Bs i y (k1.lt wV) hi (by rw[hg];rfl) hy aN
       exact absurd a1 (ad8.2 a2)) k3
    ·cases h
  ·cases h
 ·cases h
end
end Go.Proofs.YtjdnbobilgamdaaGreatDoor.Ev
end
section
namespace Go.Proofs.YtjdnbobilgamdaaGreatDoor.Ev
open Go
open Ab (aq aX Addr.aT)
theorem pO.mono{P:Program}{f:FuncId}{vals:Array Value}{w:World}{K K':Value→World→Prop}(h:pO P f vals w K)(hk:∀ v w',K v w'→K' v w'):pO P f vals w K':=by
 unfold pO at h ⊢
 generalize (callFunc f vals).run P w=r at h
 cases r with
 |ok nx w'=>
  cases nx<;>simp only at h ⊢<;>try exact h
  ·exact hk _ _ h
  ·exact h.mono fun e Cy ⟨v,he,hv⟩=>⟨v,he,hk _ _ hv⟩
 |halt x w'=>exact h
section
variable {C:Cx}{run:Nat→Code→Env→Hp→Out}
theorem Nz(hC:KV C)(pC:ve C.P run){f id len s:Nat}{xs:List CV}{H H':Hp}{v:CV}(h:NA C run f id len s xs H=some (v,H')){σ:Sg}{w:World}{vals:Array Value}(hw:aQ σ H w)
  (hr:ig σ (.so id 0 len s::xs) vals.toList):pO C.P f vals w fun rv w'=>∃ aE,aQ aE H' w'∧cG σ H w aE H' w'∧RV aE v rv:=by
 unfold NA at h
 split at h
 ·rename_i l H0 hl zw
  obtain⟨hf,rfl⟩:=Hp.sQ zw
  cases hb:Nat.beq l.length (len*s)&&Nat.blt 0 len&&Nat.blt 0 s&&Nat.blt H.n 4096 with
  |false=>rw[hb] at h;cases h
  |true=>
   rw[hb] at h
   simp only[abf] at h
   simp only[aaT,abQ,abK] at hb
   obtain⟨⟨⟨Sw,V8⟩,pV⟩,hn⟩:=hb
   split at h
   ·rename_i x HA y HB hA hB
    split at h
    ·rename_i v1 a1 v2 a2 hcA hcB
     cases J0:same v1 v2&&sR a1 a2 with
     |false=>rw[J0] at h;cases h
     |true=>
      rw[J0] at h;cases h
      simp only[aaT] at J0
      obtain rfl:=Aj J0.1
      obtain rfl:=pD J0.2
      obtain⟨y0,rest,O5,hy0,wC⟩:=hr
      have aap:=hy0
      obtain⟨b,p,c,cap,q,wV,Wj,hc,hle,Zc,ji,hq⟩:=hy0
      have hq:q=p:=by have:=hq (by omega);simpa using this
      subst hq
      have hc:cap*s=c:=by simpa using hc
      have hid:=hw.lt wV
      have hg:=rB hl
      have fq:=hw.mm id hid
      rw[hg] at fq
      obtain⟨b',p',c',arr,et,f1,f2,f3,f4,f5⟩:=fq
      rw[wV] at f1;cases f1
      obtain⟨hwb,Zd⟩:=hw.wr (w':=w) (x:=.free) hid hf (by rw[hg];rfl) wV ⟨rfl,rfl,rfl⟩ rfl (fun _ _=>rfl) (by simp) trivial
      have Co:(⟨(bg AO 4 id).s .free H.h,H.n,H.fl⟩:Hp).get id=.free:=Hp.get_set_same _ _ _ _ _
      have Ze:∀ j,j<H.n→j≠id→(⟨(bg AO 4 id).s .free H.h,H.n,H.fl⟩:Hp).get j=H.get j:=fun j hj aR=>Hp.dF _ _ _ _ _ _ (by omega) (by omega) aR
      have core:∀ (x0:List CV) (z:CV) (u:CV) (HZ:Hp),(∀ aE:Sg,(∀ id z,σ id=some z→aE id=some z)→aE H.n=some (b,q,c)→wS aE w H.n (.c x0))→
        (∀ aE:Sg,aE H.n=some (b,q,c)→RV aE z y0)→w_ C run f (z::xs) ⟨(bg AO 4 H.n).s (.c x0) ((bg AO 4 id).s .free H.h),H.n+1,H.n⟩=some (u,HZ)→canon H.n u HZ=some (v,a1)→
        pO C.P f vals w fun rv w'=>∃ aE,aQ aE ⟨(bg AO 4 H.n).s (.c a1) ((bg AO 4 id).s .free H.h),H.n+1,H.fl⟩ w'∧cG σ H w aE ⟨(bg AO 4 H.n).s (.c a1) ((bg AO 4 id).s .free H.h),H.n+1,H.fl⟩ w'∧RV aE v rv:=by
       intro x0 z u HZ sb hz sn hcn
       obtain⟨σA,m1,m2,m3,m4⟩:=hw.move (w':=w) (x:=.c x0) (y:=(b,q,c)) hid hf (by rw[hg];rfl) wV hn rfl ⟨rfl,rfl,rfl⟩ rfl (fun _ _=>rfl) (by simp) sb
       have dz:=sU hC pC sn (m3.floor (f:=H.n) hw.fl (adF _)) (vals:=vals) (by rw[O5];exact⟨y0,rest,rfl,hz σA m1,wC.mono m4.ext⟩)
       refine dz.mono ?_
       rintro rv w' ⟨Ns,k1,k2,k3⟩
       obtain⟨i,k,s',rfl,rfl,hi,hg2,Ly⟩:=Gf hcn
       have hS:∀ j,j<H.n→Ns j=σ j:=fun j hj=>(k2.Cn j hj).trans (m2 j (by omega))
       have eL:∀ sd TA,sd<H.n+1→H.n≤sd→σA sd=some TA→TA.1=b:=fun sd TA h1 h2 h3=>by
        have:sd=H.n:=by omega
        rw[this,m1] at h3;cases h3;rfl
       exact aQ.Nr (H:=H) hwb Zd k1 k2.same k2.size hS hn hi hg2 Ly (B:=fun x=>x=b)
        (fun b' dD aR=>k2.frame b' dD fun sd TA h1 h2 _ h4 h5=>aR (by rw[←h5];exact eL sd TA h1 h2 h4))
        (fun b' dD=>⟨id,_,hid,hf,by rw[hg];rfl,wV,dD.symm⟩)
        (fun j z hj H9 hz hzb=>by
         by_cases pL:j=id
         ·rw[pL,Co] at H9;cases H9
         ·rw[Ze j hj pL] at H9
          exact pL (hw.sep id j _ z hid hj hf (by rw[hg];rfl) H9 wV hz hzb.symm).symm)
        (fun y hy aN=>by
         obtain⟨i0,TA,a1,a2,_,a4,a5⟩:=k2.Bs i y (by obtain⟨b9,p9,c9,aaq,q9,Zf,_⟩:=k3;exact k1.lt Zf) hi (by rw[hg2];rfl) hy aN
         rw[←a5];exact eL i0 TA a1 a2 a4) k3
      by_cases oQ:cap=len
      ·subst oQ
       exact core l (.sl H.n 0 cap cap) x HA (fun aE hm Em=>⟨b,q,c,arr,et,Em,f2,f3,f4,f5.mono hm⟩) (fun aE Em=>⟨b,q,c,Em,by rw[Wj];simp⟩) hA hcA
      ·have Wk:len*s+s≤c:=by
        rw[←hc]
        have:(len+1)*s≤cap*s:=abg _ (by omega)
        rwa[abV,Nat.one_mul] at this
       refine core (l++rep s [.any]) (.so H.n 0 len s) y HB (fun aE hm Em=>?_) (fun aE Em=>⟨b,q,c,cap,q,Em,Wj,by simpa using hc,hle,Zc,ji,by simp⟩) hB hcB
       have SF:(rep s [CV.any]).length=s:=by
        have:∀ n:Nat,(rep n [CV.any]).length=n:=by intro n;induction n with|zero=>rfl|succ n ih=>simp[rep,ih]
        exact this s
       refine⟨b,q,c,arr,et,Em,f2,by rw[aa9,SF,Sw];exact Wk,f4,?_⟩
       have TB:∀ (n:Nat) (ys:List Value),ys.length=n→ig aE (rep n [CV.any]) ys:=by
        intro n
        induction n with
        |zero=>intro ys hy;exact acY.1 hy
        |succ n ih=>
         intro ys hy
         rcases ys with _|⟨y,ys⟩
         ·simp at hy
         ·exact⟨y,ys,rfl,trivial,ih ys (by simpa using hy)⟩
       have D2:(arr.toList.drop q).take (l++rep s [CV.any]).length=(arr.toList.drop q).take l.length++((arr.toList.drop q).drop l.length).take s:=by
        rw[aa9,SF,List.take_add]
       rw[D2]
       exact(f5.mono hm).append (TB s _ (by simp;omega))
    ·cases h
   ·cases h
 ·cases h
end
end Go.Proofs.YtjdnbobilgamdaaGreatDoor.Ev
end
section
namespace Go.Proofs.YtjdnbobilgamdaaGreatDoor.Ev
open Go
open Ab (aq aX Addr.aT)
mutual
theorem ND{σ:Sg}:∀ {c:CV} {x:Value},Cb c=some x→RV σ c x
 |.i _ _,_,h=>by cases h;rfl
 |.b _,_,h=>by cases h;rfl
 |.v _,_,h=>by cases h;rfl
 |.a l,_,h=>by
  simp only[Cb] at h
  split at h
  ·rename_i r hr;cases h;exact⟨r,rfl,Et hr⟩
  ·cases h
 |.t l,_,h=>by
  simp only[Cb] at h
  split at h
  ·rename_i r hr;cases h;exact⟨r,rfl,Et hr⟩
  ·cases h
 |.sl _ _ _ _,_,h=>by cases h
 |.so _ _ _ _,_,h=>by cases h
 |.p _ _,_,h=>by cases h
 |.m _,_,h=>by cases h
 |.f _ _,_,h=>by cases h
 |.cp _,_,h=>by cases h
 |.any,_,h=>by cases h
theorem Et{σ:Sg}:∀ {c:List CV} {x:List Value},FZ c=some x→ig σ c x
 |[],_,h=>by cases h;rfl
 |a::l,x,h=>by
  simp only[FZ] at h
  split at h
  ·rename_i u v hu hv;cases h;exact⟨u,v,rfl,ND hu,Et hv⟩
  ·cases h
end
def uu(K:Hp)(l:List CV):Hp:=⟨(bg AO 4 K.n).s (.k l) K.h,K.n+1,K.fl⟩
def ek(rs:List (List CV)):Hp:=rs.foldl uu pQ
theorem qO(rs:List (List CV))(l:List CV):ek (rs++[l])=uu (ek rs) l:=by simp[ek,List.foldl_append]
theorem Ju:∀ (rs:List (List CV)) (K:Hp),(rs.foldl uu K).n=K.n+rs.length∧(rs.foldl uu K).fl=K.fl
 |[],_=>⟨rfl,rfl⟩
 |l::rs,K=>by
  obtain⟨h1,h2⟩:=Ju rs (uu K l)
  exact⟨by simp only[adA,h1,abp];simp only[uu];omega,by simp only[adA,h2];rfl⟩
theorem sW(rs:List (List CV)):(ek rs).n=rs.length∧(ek rs).fl=0:=by
 obtain⟨h1,h2⟩:=Ju rs pQ
 exact⟨by rw[ek,h1];simp[pQ],h2⟩
theorem Dd:∀ (rs:List (List CV)) (K:Hp),K.n+rs.length≤4096→(∀ j,j<K.n→(rs.foldl uu K).get j=K.get j)∧∀ i l,rs[i]?=some l→(rs.foldl uu K).get (K.n+i)=.k l
 |[],_,_=>⟨fun _ _=>rfl,fun i l h=>by simp at h⟩
 |r::rs,K,hle=>by
  simp only[abp] at hle
  obtain⟨h1,h2⟩:=Dd rs (uu K r) (by simp only[uu];omega)
  refine⟨fun j hj=>?_,fun i l h=>?_⟩
  ·rw[adA,h1 j (by simp only[uu];omega)]
   exact Hp.dF _ _ _ _ _ _ (by omega) (by omega) (by omega)
  ·rw[adA]
   cases i with
   |zero=>
    simp at h;subst h
    rw[acy,h1 _ (by simp only[uu];omega)]
    exact Hp.get_set_same _ _ _ _ _
   |succ i=>
    have:=h2 i l (by simpa using h)
    rw[show K.n+(i+1)=(uu K r).n+i by simp only[uu];omega];exact this
theorem BF(rs:List (List CV))(i:Nat)(l:List CV)(hle:rs.length≤4096)(h:rs[i]?=some l):(ek rs).get i=.k l:=by
 have:=(Dd rs pQ (by simp[pQ];omega)).2 i l h
 rw[show pQ.n+i=i by simp[pQ]] at this
 exact this
theorem aQ.uu{σ:Sg}{w:World}{rs:List (List CV)}(hw:aQ σ (ek rs) w)(hn:(ek rs).n<4096){l:List CV}{z:Nat×Nat×Nat}(he:∀ aE:Sg,(∀ j z,σ j=some z→aE j=some z)→aE (ek rs).n=some z→wS aE w (ek rs).n (.k l)):
  ∃ aE,(∀ j z,σ j=some z→aE j=some z)∧aE (ek rs).n=some z∧aQ aE (ek (rs++[l])) w:=by
 obtain⟨n1,n2⟩:=sW rs
 have r8:∀ j u,σ j=some u→(fun i=>if i=(ek rs).n then some z else σ i) j=some u:=by
  intro j u hu
  have:j≠(ek rs).n:=fun hc=>by rw[hw.nn j (by omega)] at hu;cases hu
  simp[this,hu]
 have Wn:∀ j,j<(ek (rs++[l])).n→((ek (rs++[l])).get j).GV=false:=by
  intro j hj
  rw[(sW _).1] at hj
  rw[BF _ j (rs++[l])[j] (by simp;omega) (by simp[hj])]
  rfl
 refine⟨_,r8,by simp,?_⟩
 have ax:∀ j,j<(ek rs).n→(ek (rs++[l])).get j=(ek rs).get j:=fun j hj=>by
  rw[qO];exact Hp.dF _ _ _ _ _ _ (by omega) hn (by omega)
 have jJ:(ek (rs++[l])).get (ek rs).n=.k l:=by rw[qO];exact Hp.get_set_same _ _ _ _ _
 have E3:(ek (rs++[l])).n=(ek rs).n+1:=by rw[qO];rfl
 refine⟨fun j hj=>?_,by omega,by rw[(sW _).2];omega,fun j hj=>?_,fun j j' x x' h1 h2 h3 h4=>?_⟩
 ·have:j≠(ek rs).n:=by omega
  simp only[this,abb];exact hw.nn j (by omega)
 ·by_cases h:j=(ek rs).n
  ·rw[h,jJ];exact he _ r8 (by simp)
  ·have ph:j<(ek rs).n:=by omega
   rw[ax j ph]
   refine(hw.mm j ph).mono r8 (fun hr=>?_) (fun _ _ _=>rfl)
   have:=hw.mm j ph;rw[hr] at this
   simp only[h,abb];exact this
 ·rw[Wn j h1] at h4;cases h4
section
variable {σ:Sg}{H:Hp}{w:World}
def TC(σ:Sg)(w:World)(f:CV→Hp→Option (CV×Hp)):Prop:=∀ x K x' K',f x K=some (x',K')→∀ rs,K=ek rs→∀ Cc,aQ Cc K w→∀ y,RV σ x y→
 ∃ GX BG,K'=ek GX∧(∀ j z,Cc j=some z→BG j=some z)∧aQ BG K' w∧RV BG x' y
theorem Eu{f:CV→Hp→Option (CV×Hp)}(hf:TC σ w f):∀ {l:List CV} {K:Hp} {l':List CV} {K':Hp},UN f l K=some (l',K')→∀ rs,K=ek rs→∀ Cc,aQ Cc K w→∀ ys,ig σ l ys→
  ∃ GX BG,K'=ek GX∧(∀ j z,Cc j=some z→BG j=some z)∧aQ BG K' w∧ig BG l' ys
 |[],K,_,_,h,rs,hK,Cc,hw,ys,hr=>by cases h;exact⟨rs,Cc,hK,fun _ _ h=>h,hw,hr⟩
 |x::l,K,_,_,h,rs,hK,Cc,hw,_,⟨y,r,rfl,h2,h3⟩=>by
  simp only[UN] at h
  split at h
  ·rename_i x1 K1 hx
   split at h
   ·rename_i r1 K2 hl
    cases h
    obtain⟨LG,Jq,e1,e2,e3,e4⟩:=hf x K x1 K1 hx rs hK Cc hw y h2
    obtain⟨rs2,Ns,g1,g2,g3,g4⟩:=Eu hf hl LG e1 Jq e3 r h3
    exact⟨rs2,Ns,g1,fun j z hz=>g2 j z (e2 j z hz),g3,y,r,rfl,e4.mono g2,g4⟩
   ·cases h
  ·cases h
theorem Ia(bR:aQ σ H w){f:CV→Hp→Option (CV×Hp)}(hf:TC σ w f){id:Nat}{K K':Hp}{g:Nat→CV}{x':CV}(h:Wm f H id K g=some (x',K')){rs:List (List CV)}(hK:K=ek rs){Cc:Sg}(hw:aQ Cc K w){b p c:Nat}(hb:σ id=some (b,p,c)):
  ∃ GX BG m,K'=ek GX∧(∀ j z,Cc j=some z→BG j=some z)∧aQ BG K' w∧x'=g m∧BG m=some (b,p,c):=by
 unfold Wm at h
 split at h
 ·rename_i l hl
  split at h
  ·rename_i l' K1 hd
   obtain⟨n1,n2,n3⟩:=Hp.qp h
   obtain⟨b',p',c',arr,et,fr,f1,f2,f3,f4,f5⟩:=wT hl (bR.mm id (bR.lt hb))
   rw[hb] at f1;cases f1
   obtain⟨LG,Jq,e1,e2,e3,e4⟩:=Eu hf hd rs hK Cc hw _ f5
   subst e1
   have hlen:l'.length=l.length:=e4.length.trans f5.length.symm
   obtain⟨Ns,g1,g2,g3⟩:=e3.uu n1 (l:=l') (z:=(b,p,c)) (fun aE hm hid=>⟨b,p,c,arr,et,fr,hid,f2,by omega,f4,by rw[hlen];exact e4.mono hm⟩)
   refine⟨LG++[l'],Ns,(ek LG).n,?_,fun j z hz=>g1 j z (e2 j z hz),?_,n2,g2⟩
   ·rw[n3,qO];rfl
   ·rw[n3];rw[qO] at g3;exact g3
  ·cases h
 ·cases h
theorem RP(bR:aQ σ H w):∀ m,TC σ w (dc H m)
 |0=>fun x K x' K' h=>by cases h
 |m+1=>by
  intro x K x' K' h rs hK Cc hw y hr
  have ih:=RP bR m
  simp only[dc] at h
  split at h
  ·cases h;exact⟨rs,Cc,hK,fun _ _ h=>h,hw,hr⟩
  ·cases h;exact⟨rs,Cc,hK,fun _ _ h=>h,hw,hr⟩
  ·cases h;exact⟨rs,Cc,hK,fun _ _ h=>h,hw,hr⟩
  ·split at h
   ·rename_i l K1 hd
    cases h
    obtain⟨ys,rfl,Xq⟩:=hr
    obtain⟨LG,Jq,e1,e2,e3,e4⟩:=Eu ih hd rs hK Cc hw _ Xq
    exact⟨LG,Jq,e1,e2,e3,ys,rfl,e4⟩
   ·cases h
  ·obtain⟨b,p,c,hb,rfl⟩:=hr
   obtain⟨LG,Jq,m,e1,e2,e3,rfl,e5⟩:=Ia bR ih h hK hw hb
   exact⟨LG,Jq,e1,e2,e3,b,p,c,e5,rfl⟩
  ·obtain⟨b,p,c,cap,q,hb,wC⟩:=hr
   obtain⟨LG,Jq,m,e1,e2,e3,rfl,e5⟩:=Ia bR ih h hK hw hb
   exact⟨LG,Jq,e1,e2,e3,b,p,c,cap,q,e5,wC⟩
  ·obtain⟨b,p,c,hb,rfl⟩:=hr
   obtain⟨LG,Jq,m,e1,e2,e3,rfl,e5⟩:=Ia bR ih h hK hw hb
   exact⟨LG,Jq,e1,e2,e3,b,p,c,e5,rfl⟩
  ·cases h
end
theorem De:∀ {GX:List (List CV)} {rs:List (List CV)} {i:Nat},rs.length≤4096→i≤rs.length→rD (ek rs) GX i=true→GX=rs.drop i
 |[],rs,i,hle,hi,h=>by
  simp only[rD,abQ] at h
  rw[(sW rs).1] at h
  rw[h];simp
 |l::GX,rs,i,hle,hi,h=>by
  simp only[rD,aaT] at h
  obtain⟨h1,h2⟩:=h
  split at h1
  ·rename_i m hm
   by_cases aN:i<rs.length
   ·have hg:=BF rs i rs[i] hle (by simp[aN])
    have:m=rs[i]:=by simp only[o_,hg,aaW] at hm;exact hm.symm
    subst this
    rw[ab7 aN,←pD h1,←De (i:=i+1) hle aN h2]
   ·exfalso
    have:∀ {GX:List (List CV)} {j:Nat},rs.length<j→rD (ek rs) GX j=false:=by
     intro GX
     induction GX with
     |nil=>intro j hj;simp only[rD];rw[←Bool.not_eq_true,abQ,(sW rs).1];omega
     |cons a GX ih=>intro j hj;simp only[rD,ih (j:=j+1) (by omega),ac5]
    rw[this (by omega)] at h2;cases h2
  ·cases h1
def Df(P:Program)(t:List (Nat×List CV×List (List CV)×CV)):Prop:=∀ e,e∈t→scalar e.2.2.2=true∧∀ σ w (vals:Array Value),aQ σ ⟨(ek e.2.2.1).h,(ek e.2.2.1).n,(ek e.2.2.1).n⟩ w→ig σ e.2.1 vals.toList→
 pO P e.1 vals w fun rv w'=>∃ aE H',aQ aE H' w'∧cG σ ⟨(ek e.2.2.1).h,(ek e.2.2.1).n,(ek e.2.2.1).n⟩ w aE H' w'∧RV aE e.2.2.2 rv
theorem Gj{f:Nat}{xs:List CV}{rs:List (List CV)}(hle:rs.length≤4096){v:CV}:∀ {t:List (Nat×List CV×List (List CV)×CV)},known f xs (ek rs) t=some v→(f,xs,rs,v)∈t
 |[],h=>by cases h
 |(g,ys,GX,u)::t,h=>by
  simp only[known] at h
  cases hb:Nat.beq f g&&sR xs ys&&rD (ek rs) GX 0 with
  |false=>rw[hb] at h;exact aby _ (Gj hle h)
  |true=>
   rw[hb] at h;cases h
   simp only[aaT,abQ] at hb
   obtain⟨⟨rfl,hx⟩,hr⟩:=hb
   obtain rfl:=pD hx
   have:=De (i:=0) hle (acp _) hr
   simp at this
   subst this
   exact abr
section
variable {C:Cx}{run:Nat→Code→Env→Hp→Out}
theorem NF(hC:KV C)(hT:Df C.P C.kt)(pC:ve C.P run){f:Nat}{xs:List CV}{H H':Hp}{v:CV}(h:NB C run f xs H=some (v,H')){σ:Sg}{w:World}{vals:Array Value}(hw:aQ σ H w)(hr:ig σ xs vals.toList):
  pO C.P f vals w fun rv w'=>∃ aE,aQ aE H' w'∧cG σ H w aE H' w'∧RV aE v rv:=by
 unfold NB at h
 split at h
 ·rename_i ys K hd
  have Zg:aQ (fun _=>none) pQ w:=⟨fun _ _=>rfl,by simp[pQ],aaZ _,fun id hi=>by simp[pQ] at hi,fun id _ _ _ h1=>by simp[pQ] at h1⟩
  obtain⟨rs,Cc,rfl,_,e3,e4⟩:=Eu (RP hw 6) hd [] rfl _ Zg _ hr
  have hle:rs.length≤4096:=by have:=e3.le;rw[(sW rs).1] at this;exact this
  have Aw:aQ Cc ⟨(ek rs).h,(ek rs).n,(ek rs).n⟩ w:=e3.floor (by rw[(sW rs).2];omega) (aaZ _)
  have fin:∀ {u:CV},scalar u=true→pO C.P f vals w (fun rv w'=>∃ aE H',aQ aE H' w'∧cG Cc ⟨(ek rs).h,(ek rs).n,(ek rs).n⟩ w aE H' w'∧RV aE u rv)→
    pO C.P f vals w fun rv w'=>∃ aE,aQ aE H w'∧cG σ H w aE H w'∧RV aE u rv:=by
   intro u hu dz
   refine dz.mono ?_
   rintro rv w' ⟨aE,H2,k1,k2,k3⟩
   have p7:∀ b,b<w.heap.size→w'.heap[b]?=w.heap[b]?:=fun b hb=>k2.frame b hb fun id x h1 h2=>absurd h1 (ad8.2 h2)
   refine⟨σ,⟨hw.nn,hw.le,hw.fl,fun id hi=>(hw.mm id hi).mono (fun _ _ h=>h) (fun hr=>by have:=hw.mm id hi;rw[hr] at this;exact this) (fun z hz hl=>?_),hw.sep⟩,⟨k2.same,k2.size,fun _ _ h=>h,fun _ _ h=>⟨rfl,h⟩,fun _ _=>rfl,aaZ _,rfl,fun _ _=>rfl,fun b hb _=>p7 b hb,fun id x h1 h2 h3 h4 _=>⟨id,x,h1,h2,h3,h4,rfl⟩,fun id x h1 h2 h3 h4 _=>⟨id,x,h1,h2,h3,h4,rfl⟩⟩,?_⟩
   ·obtain⟨y,a1,a2⟩:=(hw.mm id hi).aD hl
    rw[hz] at a1;cases a1
    exact p7 _ a2
   ·unfold scalar at hu
    split at hu
    ·rename_i x hx
     rw[kW hx k3];exact ND hx
    ·cases hu
  split at h
  ·rename_i u hk
   cases h
   obtain⟨t1,t2⟩:=hT _ (Gj hle hk)
   exact fin t1 (t2 Cc w vals Aw e4)
  ·split at h
   ·rename_i u H2 sn
    cases hs:scalar u with
    |false=>rw[hs] at h;cases h
    |true=>
     rw[hs] at h;cases h
     exact fin hs ((sU hC pC sn Aw e4).mono fun rv w' ⟨aE,a,b,c⟩=>⟨aE,H2,a,b,c⟩)
   ·cases h
 ·cases h
theorem NG(hC:KV C)(hT:Df C.P C.kt)(pC:ve C.P run):rC C.P (NC C run):=by
 intro f xs H v H' h σ w vals hw hr
 unfold NC at h
 cases h1:sS C.ks f with
 |true=>rw[h1] at h;exact NF hC hT pC h hw hr
 |false=>
  rw[h1] at h
  simp only[abJ] at h
  cases h2:sS C.qf f with
  |true=>rw[h2] at h;exact Nx hC pC h hw hr
  |false=>
   rw[h2] at h
   simp only[abJ] at h
   cases h3:sS C.oc f with
   |false=>rw[h3] at h;exact sU hC pC h hw hr
   |true=>
    rw[h3] at h
    simp only[abf] at h
    split at h
    ·exact Nz hC pC h hw hr
    ·exact sU hC pC h hw hr
end
end Go.Proofs.YtjdnbobilgamdaaGreatDoor.Ev
end
