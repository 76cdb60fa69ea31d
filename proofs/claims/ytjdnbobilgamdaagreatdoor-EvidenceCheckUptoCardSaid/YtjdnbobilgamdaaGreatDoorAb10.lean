/- A region whose order Go leaves open: walked once, in the order of the text, where a check on its edges shows that the order does not matter. Loops that make memory; pieces of slices and texts; comparing with nil; a text as bytes. Small lemmas that the printed walks use. Conditions: none. -/
import Derived.Test.YtjdnbobilgamdaaGreatDoorAb7
import Derived.Lib.ConvBytes
import Derived.IntWalk
section
namespace Go.Proofs.YtjdnbobilgamdaaGreatDoor.Ab
open Go
def xD(H:List HE):List (Nat×HE)→List HE
 |[]=>H
 |(i,e)::r=>xD (H.set i e) r
theorem Fy:∀ (ws:List (Nat×HE)) (H:List HE),(xD H ws).length=H.length
 |[],_=>rfl
 |(i,e)::r,H=>by simp[xD,Fy r]
theorem RA:∀ (ws:List (Nat×HE)) (H:List HE) (i:Nat),i∉ws.map (·.1)→(xD H ws)[i]?=H[i]?
 |[],_,_,_=>rfl
 |(j,e)::r,H,i,h=>by
  simp only[abP,abq,not_or] at h
  simp only[xD]
  rw[RA r _ i h.2,abR (fun hc=>h.1 hc.symm)]
theorem S3:∀ (ws:List (Nat×HE)) (H H':List HE) (i:Nat),H.length=H'.length→i∈ws.map (·.1)→(xD H ws)[i]?=(xD H' ws)[i]?
 |[],_,_,_,_,h=>by simp at h
 |(j,e)::r,H,H',i,hl,h=>by
  simp only[xD]
  by_cases hr:i∈r.map (·.1)
  ·exact S3 r _ _ i (by simp[hl]) hr
  ·rw[RA r _ i hr,RA r _ i hr]
   have hi:i=j:=by simpa[hr] using h
   subst hi
   by_cases aN:i<H.length
   ·rw[acg aN,acg (by omega)]
   ·rw[abv (by simp;omega),abv (by simp;omega)]
def Mw(F:FC)(ops:Array Oper)(o:Oper)(rd:List Nat)(st:St)(v:V)(ws:List (Nat×HE)):Prop:=
 (∀ d,o.dst=some d→d<F.n)∧
 match o.guard with
 |none=>∀ H',H'.length=st.H.length→(∀ id,id∈rd++ws.map (·.1)→H'[id]?=st.H[id]?)→bj F.P o.op o.type (ρ st.env) H' v (xD H' ws)
 |some (j,want)=>ws=[]∧∃ t,(ops[j]?).bind (·.dst)=some t∧t<F.n∧
   ((∃ b q u,st.env t=.d (.bool b)∧q=(b==want)∧v=.when q u∧(b=want→∀ H',H'.length=st.H.length→(∀ id,id∈rd→H'[id]?=st.H[id]?)→bj F.P o.op o.type (ρ st.env) H' u H'))∨
    (∃ p b q u,st.env t=.when p (.d (.bool b))∧q=(p&&(b==want))∧v=.when q u∧(p=true→b=want→∀ H',H'.length=st.H.length→(∀ id,id∈rd→H'[id]?=st.H[id]?)→bj F.P o.op o.type (ρ st.env) H' u H')))
def AD(F:FC)(ops:Array Oper)(Q:St→Prop):List Oper→List (List Nat×List Nat)→St→Prop
 |[],_,st=>Q st
 |o::os,mL,st=>∃ v ws,(mL.headD ([],[])).2=ws.map (·.1)∧Mw F ops o (mL.headD ([],[])).1 st v ws∧AD F ops Q os mL.tail ⟨lL st.env o.dst v,xD st.H ws⟩
section
variable {F:FC}{Q:St→Prop}{st:St}{ops:Array Oper}
theorem AD.nil{mL:List (List Nat×List Nat)}(h:Q st):AD F ops Q [] mL st:=h
theorem AD.step{dst:Option Nat}{o:Op}{ty:TypeId}{pos:String}{after:Array Edge}{rest:List Oper}{v:V}{rd wr:List Nat}{ws:List (Nat×HE)}{mL:List (List Nat×List Nat)}
  (hd:vU dst F.n=true)(hw:wr=ws.map (·.1))(h:∀ H',H'.length=st.H.length→(∀ id,id∈rd++ws.map (·.1)→H'[id]?=st.H[id]?)→bj F.P o ty (ρ st.env) H' v (xD H' ws))
  (k:AD F ops Q rest mL ⟨lL st.env dst v,xD st.H ws⟩):AD F ops Q (⟨dst,o,ty,pos,after,none⟩::rest) ((rd,wr)::mL) st:=
 ⟨v,ws,hw,⟨uS hd,h⟩,k⟩
theorem AD.stepG{dst:Option Nat}{o:Op}{ty:TypeId}{pos:String}{after:Array Edge}{rest:List Oper}{v:V}{rd:List Nat}{mL:List (List Nat×List Nat)}{j t:Nat}{want b q:Bool}
  (hj:(ops[j]?).bind (·.dst)=some t)(qi:Nat.blt t F.n=true)(hb:st.env t=.d (.bool b))(hq:q=(b==want))(hd:vU dst F.n=true)
  (h:b=want→∀ H',H'.length=st.H.length→(∀ id,id∈rd→H'[id]?=st.H[id]?)→bj F.P o ty (ρ st.env) H' v H')
  (k:AD F ops Q rest mL ⟨lL st.env dst (.when q v),st.H⟩):AD F ops Q (⟨dst,o,ty,pos,after,some (j,want)⟩::rest) ((rd,[])::mL) st:=
 ⟨.when q v,[],rfl,⟨uS hd,rfl,t,hj,by simpa[abK] using qi,.inl ⟨b,q,v,hb,hq,rfl,h⟩⟩,k⟩
theorem AD.AK{dst:Option Nat}{o:Op}{ty:TypeId}{pos:String}{after:Array Edge}{rest:List Oper}{v:V}{rd:List Nat}{mL:List (List Nat×List Nat)}{j t:Nat}{want b p q:Bool}
  (hj:(ops[j]?).bind (·.dst)=some t)(qi:Nat.blt t F.n=true)(hb:st.env t=.when p (.d (.bool b)))(hq:q=(p&&(b==want)))(hd:vU dst F.n=true)
  (h:p=true→b=want→∀ H',H'.length=st.H.length→(∀ id,id∈rd→H'[id]?=st.H[id]?)→bj F.P o ty (ρ st.env) H' v H')
  (k:AD F ops Q rest mL ⟨lL st.env dst (.when q v),st.H⟩):AD F ops Q (⟨dst,o,ty,pos,after,some (j,want)⟩::rest) ((rd,[])::mL) st:=
 ⟨.when q v,[],rfl,⟨uS hd,rfl,t,hj,by simpa[abK] using qi,.inr ⟨p,b,q,v,hb,hq,rfl,h⟩⟩,k⟩
section
variable {dst:Option Nat}{o:Op}{ty:TypeId}{pos:String}{after:Array Edge}{rest:List Oper}{v:V}{rd:List Nat}{mL:List (List Nat×List Nat)}{j t:Nat}{b p:Bool}
theorem AD.stepT(hj:(ops[j]?).bind (·.dst)=some t)(qi:Nat.blt t F.n=true)(hb:st.env t=.d (.bool b))(hd:vU dst F.n=true)
  (h:b=true→∀ H',H'.length=st.H.length→(∀ id,id∈rd→H'[id]?=st.H[id]?)→bj F.P o ty (ρ st.env) H' v H')(k:AD F ops Q rest mL ⟨lL st.env dst (.when b v),st.H⟩):
  AD F ops Q (⟨dst,o,ty,pos,after,some (j,true)⟩::rest) ((rd,[])::mL) st:=AD.stepG hj qi hb (Pv b) hd h k
theorem AD.LJ(hj:(ops[j]?).bind (·.dst)=some t)(qi:Nat.blt t F.n=true)(hb:st.env t=.d (.bool b))(hd:vU dst F.n=true)
  (h:b=false→∀ H',H'.length=st.H.length→(∀ id,id∈rd→H'[id]?=st.H[id]?)→bj F.P o ty (ρ st.env) H' v H')(k:AD F ops Q rest mL ⟨lL st.env dst (.when (!b) v),st.H⟩):
  AD F ops Q (⟨dst,o,ty,pos,after,some (j,false)⟩::rest) ((rd,[])::mL) st:=AD.stepG hj qi hb (Pw b) hd h k
theorem AD.G0(hj:(ops[j]?).bind (·.dst)=some t)(qi:Nat.blt t F.n=true)(hb:st.env t=.when p (.d (.bool b)))(hd:vU dst F.n=true)
  (h:p=true→b=true→∀ H',H'.length=st.H.length→(∀ id,id∈rd→H'[id]?=st.H[id]?)→bj F.P o ty (ρ st.env) H' v H')(k:AD F ops Q rest mL ⟨lL st.env dst (.when (p&&b) v),st.H⟩):
  AD F ops Q (⟨dst,o,ty,pos,after,some (j,true)⟩::rest) ((rd,[])::mL) st:=AD.AK hj qi hb (by rw[←Pv]) hd h k
theorem AD.G1(hj:(ops[j]?).bind (·.dst)=some t)(qi:Nat.blt t F.n=true)(hb:st.env t=.when p (.d (.bool b)))(hd:vU dst F.n=true)
  (h:p=true→b=false→∀ H',H'.length=st.H.length→(∀ id,id∈rd→H'[id]?=st.H[id]?)→bj F.P o ty (ρ st.env) H' v H')(k:AD F ops Q rest mL ⟨lL st.env dst (.when (p&&!b) v),st.H⟩):
  AD F ops Q (⟨dst,o,ty,pos,after,some (j,false)⟩::rest) ((rd,[])::mL) st:=AD.AK hj qi hb (by rw[←Pw]) hd h k
end
def Mx(ops:Array Oper)(i j:Nat):Bool:=match ops[i]? with|some o=>o.after.any fun e=>Region.binds .any e&&e.on==j|none=>false
def My(ops:Array Oper):Nat→Nat→Nat→Bool
 |0,i,j=>Mx ops i j
 |k+1,i,j=>Mx ops i j||match ops[i]? with|some o=>o.after.any fun e=>Region.binds .any e&&My ops k e.on j|none=>false
def VP(ops:Array Oper)(i j:Nat):Bool:=if j<i then My ops 12 i j else My ops 12 j i
def XI(o:Oper):List Nat:=o.dst.toList
def rdS(ops:Array Oper)(o:Oper):List Nat:=o.looksAt ops
def VQ(ops:Array Oper)(oi oj:Oper)(ai aj:List Nat×List Nat):Bool:=
 (XI oj).any (fun x=>(rdS ops oi).contains x||(XI oi).contains x)||aj.2.any (fun x=>ai.1.contains x||ai.2.contains x)
def Vt(ops:Array Oper)(mL:List (List Nat×List Nat)):Bool:=
 (List.range ops.size).all fun i=>match ops[i]? with
  |none=>false
  |some oi=>(oi.after.all fun e=>!Region.binds .any e||e.on<i)&&(match oi.op with|.select _ _=>false|_=>true)&&
   (List.range ops.size).all fun j=>match ops[j]? with
    |none=>false
    |some oj=>i==j||!VQ ops oi oj (mL.getD i ([],[])) (mL.getD j ([],[]))||VP ops i j
theorem AD.seq:∀ (os:List Oper) (mL:List (List Nat×List Nat)) (st:St),AD F ops Q os mL st→
  ∃ (S:Nat→St) (vs:Nat→V) (ws:Nat→List (Nat×HE)),S 0=st∧Q (S os.length)∧∀ (i:Nat) o,os[i]?=some o→
   (mL.getD i ([],[])).2=(ws i).map (·.1)∧Mw F ops o (mL.getD i ([],[])).1 (S i) (vs i) (ws i)∧S (i+1)=⟨lL (S i).env o.dst (vs i),xD (S i).H (ws i)⟩
 |[],mL,st,h=>⟨fun _=>st,fun _=>.any,fun _=>[],rfl,h,by simp⟩
 |o::os,mL,st,h=>by
  obtain⟨v,w,h1,h2,h3⟩:=h
  obtain⟨S,vs,ws,k1,k2,k3⟩:=AD.seq os mL.tail _ h3
  refine⟨fun i=>match i with|0=>st|i+1=>S i,fun i=>match i with|0=>v|i+1=>vs i,fun i=>match i with|0=>w|i+1=>ws i,rfl,by simpa using k2,fun i o' ho=>?_⟩
  cases i with
  |zero=>
   simp only[aa',aaW] at ho
   subst ho
   have e:mL.getD 0 ([],[])=mL.headD ([],[]):=by cases mL<;>rfl
   exact⟨by rw[e];exact h1,by rw[e];exact h2,by simp[k1]⟩
  |succ i=>
   have e:mL.getD (i+1) ([],[])=mL.tail.getD i ([],[]):=by cases mL<;>simp
   rw[e]
   exact k3 i o' (by simpa using ho)
theorem VR{mL:List (List Nat×List Nat)}(h:Vt ops mL=true){i:Nat}{oi:Oper}(hi:ops[i]?=some oi):
  (∀ e,e∈oi.after→Region.binds .any e=true→e.on<i)∧(∀ cs b,oi.op≠.select cs b)∧
  ∀ (j:Nat) oj,ops[j]?=some oj→i≠j→((∃ x,x∈XI oj∧(x∈rdS ops oi∨x∈XI oi))∨(∃ x,x∈(mL.getD j ([],[])).2∧(x∈(mL.getD i ([],[])).1∨x∈(mL.getD i ([],[])).2)))→VP ops i j=true:=by
 have aN:i<ops.size:=(abd.1 hi).1
 simp only[Vt,abi,ach] at h
 have h1:=h i aN
 simp only[hi,aaT] at h1
 obtain⟨⟨h2,h3⟩,h4⟩:=h1
 refine⟨fun e he hb=>?_,fun cs b hc=>by simp[hc] at h3,fun j oj hj aR oQ=>?_⟩
 ·obtain⟨k,hk,rfl⟩:=adI.1 he
  have:=(adk.1 h2) k hk
  simpa[hb] using this
 ·have aah:j<ops.size:=(abd.1 hj).1
  simp only[abi,ach] at h4
  have h5:=h4 j aah
  simp only[hj,abU,ad6,abC] at h5
  rcases h5 with (h5|h5)|h5
  ·exact absurd h5 aR
  ·exfalso
   have:VQ ops oi oj (mL.getD i ([],[])) (mL.getD j ([],[]))=true:=by
    simp only[VQ,abU,acd,List.contains_iff_mem]
    rcases oQ with ⟨x,Xp,IY⟩|⟨x,Xp,IY⟩
    ·exact .inl ⟨x,Xp,IY⟩
    ·exact .inr ⟨x,Xp,IY⟩
   rw[this] at h5;cases h5
  ·exact h5
theorem I1{o:Oper}{t:Nat}(h:Operand.tmp t∈o.op.operands):t∈o.looksAt ops:=
 acS _ (adZ.2 ⟨.tmp t,by simpa using h,rfl⟩)
theorem LC{o:Oper}{j t:Nat}{want:Bool}(hg:o.guard=some (j,want))(ht:(ops[j]?).bind (·.dst)=some t):t∈o.looksAt ops:=by
 simp[Oper.looksAt,hg,ht]
theorem bj.congr{P:Program}{o:Op}{ty:TypeId}{RB RC:Operand→V}{H H':List HE}{v:V}(h:bj P o ty RB H v H')(he:∀ x,x∈o.operands→RB x=RC x):bj P o ty RC H v H':=
 fun g w r pos after guard dst hw hx=>h g w r pos after guard dst hw fun x OS=>he x OS▸hx x OS
theorem VS{E E':Nat→V}{x:Operand}(h:∀ t,x=.tmp t→E t=E' t):ρ E x=ρ E' x:=by
 cases x with
 |tmp t=>exact h t rfl
 |_=>rfl
theorem VT{o:Oper}{i j:Nat}(ho:ops[i]?=some o)(h:Mx ops i j=true):∃ e,e∈o.after∧Region.binds .any e=true∧e.on=j:=by
 simp only[Mx,ho,Array.any_eq_true,aaT,ad6] at h
 obtain⟨k,hk,h1,h2⟩:=h
 exact⟨_,acE hk,h1,h2⟩
theorem XJ{E:Nat→V}{d:Option Nat}{v:V}{x:Nat}(h:x∉d.toList):lL E d v x=E x:=by
 cases d with
 |none=>rfl
 |some d=>exact AG _ _ (by simpa using h)
theorem VU{E E':Nat→V}{d:Option Nat}{v:V}{x:Nat}(h:x∈d.toList):lL E d v x=lL E' d v x:=by
 cases d with
 |none=>simp at h
 |some d=>simp at h;subst h;simp[lL,mP]
theorem AW.drawn{Q:Exit→St→Prop}{id:Nat}(mL:List (List Nat×List Nat))(hm:F.P.follows .mixedOrders=true)(D0:Vt ops mL=true)(h:AD F ops (Q .normal) ops.toList mL st):AW F (.region id ops true) Q st:=by
 obtain⟨S,vs,ws,hS0,hSn,Mc⟩:=AD.seq ops.toList mL st h
 have aaz:∀ (i:Nat) o,ops[i]?=some o→(mL.getD i ([],[])).2=(ws i).map (·.1)∧Mw F ops o (mL.getD i ([],[])).1 (S i) (vs i) (ws i)∧S (i+1)=⟨lL (S i).env o.dst (vs i),xD (S i).H (ws i)⟩:=
  fun i o ho=>Mc i o (by simpa using ho)
 have hlen:∀ i,i≤ops.size→(S i).H.length=st.H.length:=by
  intro i
  induction i with
  |zero=>intro _;rw[hS0]
  |succ i ih=>
   intro hi
   obtain⟨o,ho⟩:∃ o,ops[i]?=some o:=⟨ops[i],by simp⟩
   rw[(aaz i o ho).2.2];simp only[Fy];exact ih (by omega)
 have aaB:∀ (x t t':Nat),t≤t'→t'≤ops.size→(∀ (j:Nat) o,t≤j→j<t'→ops[j]?=some o→x∉XI o)→(S t').env x=(S t).env x:=by
  intro x t t' htt
  induction htt with
  |refl=>intro _ _;rfl
  |@step m hm ih=>
   intro hle ON
   obtain⟨o,ho⟩:∃ o,ops[m]?=some o:=⟨ops[m],by simp⟩
   rw[(aaz m o ho).2.2]
   simp only
   rw[XJ (ON m o hm (adL m) ho)]
   exact ih (by omega) (fun j o h1 h2=>ON j o h1 (by omega))
 have aaC:∀ (x t t':Nat),t≤t'→t'≤ops.size→(∀ (j:Nat) o,t≤j→j<t'→ops[j]?=some o→x∉(mL.getD j ([],[])).2)→(S t').H[x]?=(S t).H[x]?:=by
  intro x t t' htt
  induction htt with
  |refl=>intro _ _;rfl
  |@step m hm ih=>
   intro hle ON
   obtain⟨o,ho⟩:∃ o,ops[m]?=some o:=⟨ops[m],by simp⟩
   have h1:=(aaz m o ho).1
   rw[(aaz m o ho).2.2]
   simp only
   rw[RA _ _ _ (by rw[←h1];exact ON m o hm (adL m) ho)]
   exact ih (by omega) (fun j o h1 h2=>ON j o h1 (by omega))
 let J:Array Bool→Act→World→Prop:=fun listed a w=>listed.size=ops.size∧
  (∀ (j:Nat) o,ops[j]?=some o→listed.getD j true=true→∀ e,e∈o.after→Region.binds .any e=true→listed.getD e.on true=true)∧
  ∃ cur:St,jv F cur a w∧cur.H.length=st.H.length∧
   (∀ x,∃ t,t≤ops.size∧cur.env x=(S t).env x∧∀ (j:Nat) o,ops[j]?=some o→x∈XI o→(listed.getD j true=true↔j<t))∧
   (∀ x,∃ t,t≤ops.size∧cur.H[x]?=(S t).H[x]?∧∀ (j:Nat) o,ops[j]?=some o→x∈(mL.getD j ([],[])).2→(listed.getD j true=true↔j<t))
 have RT:∀ listed a w,J listed a w→Region.ready .any ops listed=[]→∃ mH,jv F mH a w∧Q .normal mH:=by
  rintro listed a w ⟨dE,oQ,cur,Vc,VY,hE,hH⟩ hr
  have wy:∀ i,i<ops.size→listed.getD i true=true:=by
   intro i
   induction i using Nat.strongRecOn with
   |_ i ih=>
    intro hi
    obtain⟨o,ho⟩:∃ o,ops[i]?=some o:=⟨ops[i],by simp⟩
    cases hl:listed.getD i true with
    |true=>rfl
    |false=>
     exfalso
     have:i∈Region.ready .any ops listed:=by
      simp only[Region.ready,abT,ach]
      refine⟨hi,?_⟩
      simp only[hl,abw,ho,abN,aci,ab1,adk]
      intro k hk
      cases hb:Region.binds .any o.after[k] with
      |false=>simp
      |true=>
       have aN:=(VR D0 ho).1 _ (acE hk) hb
       have:=ih _ aN (by omega)
       simp only[abt,ab5]
       have S4:o.after[k].on<listed.size:=by omega
       simpa[Array.getD,S4] using this
     rw[hr] at this;cases this
  have hEq:cur=S ops.size:=by
   have e1:cur.env=(S ops.size).env:=by
    funext x
    obtain⟨t,ht,hx,hw⟩:=hE x
    rw[hx,aaB x t ops.size ht (aaZ _)]
    intro j o h1 h2 ho mG
    have:=(hw j o ho mG).1 (wy j h2)
    omega
   have e2:cur.H=(S ops.size).H:=by
    apply ab6
    intro x
    obtain⟨t,ht,hx,hw⟩:=hH x
    rw[hx,aaC x t ops.size ht (aaZ _)]
    intro j o h1 h2 ho mG
    have:=(hw j o ho mG).1 (wy j h2)
    omega
   cases cur;cases hs:S ops.size
   simp only[hs] at e1 e2
   subst e1;subst e2;rfl
  rw[hEq] at Vc
  exact⟨_,Vc,by simpa using hSn⟩
 have eL:∀ listed a w i,J listed a w→i∈Region.ready .any ops listed→
   wpOp F.P ops (fun e a' w'=>∃ mH,jv F mH a' w'∧Q e mH) i (fun a' w'=>J (listed.setIfInBounds i true) a' w') a w:=by
  rintro listed a w i ⟨dE,oQ,cur,Vc,VY,hE,hH⟩ hr
  simp only[Region.ready,abT,ach,aaT,abC] at hr
  obtain⟨hi,Zk,Wu⟩:=hr
  obtain⟨o,ho⟩:∃ o,ops[i]?=some o:=⟨ops[i],by simp⟩
  simp only[ho,abN,aci,adk] at Wu
  obtain⟨aN,aaS,aaA⟩:=VR D0 ho
  have aaL:∀ (k m j:Nat),listed.getD m true=true→My ops k m j=true→listed.getD j true=true:=by
   intro k
   induction k with
   |zero=>
    intro m j hm hj
    simp only[My,Mx] at hj
    cases hom:ops[m]? with
    |none=>rw[hom] at hj;cases hj
    |some om=>
     obtain⟨e,he,hb,rfl⟩:=VT hom (by simpa only[Mx] using hj)
     exact oQ m om hom hm e he hb
   |succ k ih=>
    intro m j hm hj
    simp only[My,abU] at hj
    cases hom:ops[m]? with
    |none=>
     rw[hom] at hj
     rcases hj with hj|hj
     ·simp only[Mx,hom] at hj;cases hj
     ·cases hj
    |some om=>
     rcases hj with hj|hj
     ·obtain⟨e,he,hb,rfl⟩:=VT hom hj
      exact oQ m om hom hm e he hb
     ·rw[hom] at hj
      simp only[Array.any_eq_true,aaT] at hj
      obtain⟨q,hq,hb,hj⟩:=hj
      exact ih _ j (oQ m om hom hm _ (acE hq) hb) hj
  have Wv:∀ e,e∈o.after→Region.binds .any e=true→listed.getD e.on true=true:=by
   intro e he hb
   obtain⟨k,hk,rfl⟩:=adI.1 he
   have:=Wu k hk
   simp only[hb,abt,ab5] at this
   have hon:=aN _ (acE hk) hb
   have Zl:o.after[k].on<listed.size:=by omega
   simpa[Array.getD,Zl] using this
  have aaO:∀ j,My ops 12 i j=true→listed.getD j true=true:=by
   intro j hj
   simp only[My,abU] at hj
   rcases hj with hj|hj
   ·obtain⟨e,he,hb,rfl⟩:=VT ho hj
    exact Wv e he hb
   ·rw[ho] at hj
    simp only[Array.any_eq_true,aaT] at hj
    obtain⟨q,hq,hb,hj⟩:=hj
    exact aaL 11 _ j (Wv _ (acE hq) hb) (by simpa only[My,abU] using hj)
  have aaP:∀ (j:Nat) oj,ops[j]?=some oj→My ops 12 j i=true→listed.getD j true=false:=by
   intro j oj Zm hj
   cases hl:listed.getD j true with
   |false=>rfl
   |true=>
    have:=aaL 12 j i hl hj
    rw[Zk] at this;cases this
  have aaG:∀ (j:Nat) oj,ops[j]?=some oj→i≠j→VP ops i j=true→(listed.getD j true=true↔j<i):=by
   intro j oj Zm aR aaJ
   unfold VP at aaJ
   split at aaJ
   ·rename_i pL;exact⟨fun _=>pL,fun _=>aaO j aaJ⟩
   ·rename_i pL
    have:=aaP j oj Zm aaJ
    rw[this];exact⟨fun h=>(by cases h),fun h=>absurd h pL⟩
  have aaH:∀ x,x∈rdS ops o→cur.env x=(S i).env x:=by
   intro x hx
   obtain⟨t,ht,UW,hw⟩:=hE x
   have hb:∀ (j:Nat) oj,ops[j]?=some oj→x∈XI oj→(j=i∧¬j<t)∨(j≠i∧(j<t↔j<i)):=by
    intro j oj Zm mG
    by_cases pL:j=i
    ·subst pL;exact .inl ⟨rfl,fun h=>by have:=(hw j oj Zm mG).2 h;rw[Zk] at this;cases this⟩
    ·have h1:=aaG j oj Zm (fun h=>pL h.symm) (aaA j oj Zm (fun h=>pL h.symm) (.inl ⟨x,mG,.inl hx⟩))
     exact .inr ⟨pL,(hw j oj Zm mG).symm.trans h1⟩
   rw[UW]
   by_cases hti:t≤i
   ·exact(aaB x t i hti (by omega) (fun j oj h1 h2 Zm mG=>by rcases hb j oj Zm mG with ⟨h3,_⟩|⟨_,h3⟩<;>omega)).symm
   ·exact aaB x i t (by omega) ht (fun j oj h1 h2 Zm mG=>by rcases hb j oj Zm mG with ⟨_,h3⟩|⟨_,h3⟩<;>omega)
  have aaD:∀ x,(x∈(mL.getD i ([],[])).1∨x∈(mL.getD i ([],[])).2)→cur.H[x]?=(S i).H[x]?:=by
   intro x hx
   obtain⟨t,ht,UW,hw⟩:=hH x
   have hb:∀ (j:Nat) oj,ops[j]?=some oj→x∈(mL.getD j ([],[])).2→(j=i∧¬j<t)∨(j≠i∧(j<t↔j<i)):=by
    intro j oj Zm mG
    by_cases pL:j=i
    ·subst pL;exact .inl ⟨rfl,fun h=>by have:=(hw j oj Zm mG).2 h;rw[Zk] at this;cases this⟩
    ·have h1:=aaG j oj Zm (fun h=>pL h.symm) (aaA j oj Zm (fun h=>pL h.symm) (.inr ⟨x,mG,hx⟩))
     exact .inr ⟨pL,(hw j oj Zm mG).symm.trans h1⟩
   rw[UW]
   by_cases hti:t≤i
   ·exact(aaC x t i hti (by omega) (fun j oj h1 h2 Zm mG=>by rcases hb j oj Zm mG with ⟨h3,_⟩|⟨_,h3⟩<;>omega)).symm
   ·exact aaC x i t (by omega) ht (fun j oj h1 h2 Zm mG=>by rcases hb j oj Zm mG with ⟨_,h3⟩|⟨_,h3⟩<;>omega)
  obtain⟨aaM,⟨hdn,aaK⟩,Xk⟩:=aaz i o ho
  have DR:∀ j,(listed.setIfInBounds i true).getD j true=true↔(j=i∨listed.getD j true=true):=by
   intro j
   by_cases pL:j=i
   ·subst pL
    have:j<listed.size:=by omega
    simp[Array.getD,this]
   ·simp[abB,abD (fun h=>pL h.symm),pL]
  have NY:∀ a' w' H2,jv F ⟨lL cur.env o.dst (vs i),H2⟩ a' w'→H2=xD cur.H (ws i)→J (listed.setIfInBounds i true) a' w':=by
   intro a' w' H2 OP hH2
   subst hH2
   refine⟨by simpa using dE,?_,_,OP,by simp[Fy,VY],?_,?_⟩
   ·intro j oj Zm hl e he hb
    rw[DR] at hl ⊢
    rcases hl with rfl|hl
    ·obtain rfl:o=oj:=by rw[ho] at Zm;exact aa5 Zm
     obtain⟨k,hk,rfl⟩:=adI.1 he
     have:=Wu k hk
     simp only[hb,abt,ab5] at this
     have hon:=aN _ (acE hk) hb
     have Zl:o.after[k].on<listed.size:=by omega
     exact .inr (by simpa[Array.getD,Zl] using this)
    ·exact .inr (oQ j oj Zm hl e he hb)
   ·intro x
    by_cases hx:x∈XI o
    ·refine⟨i+1,by omega,?_,fun j oj Zm mG=>?_⟩
     ·rw[Xk];exact VU hx
     ·rw[DR]
      by_cases pL:j=i
      ·subst pL;exact⟨fun _=>by omega,fun _=>.inl rfl⟩
      ·have:=aaG j oj Zm (fun h=>pL h.symm) (aaA j oj Zm (fun h=>pL h.symm) (.inl ⟨x,mG,.inr hx⟩))
       constructor
       ·rintro(h|h)
        ·exact absurd h pL
        ·have:=this.1 h;omega
       ·intro h;exact .inr (this.2 (by omega))
    ·obtain⟨t,ht,UW,hw⟩:=hE x
     refine⟨t,ht,by rw[←UW];exact XJ hx,fun j oj Zm mG=>?_⟩
     rw[DR,←hw j oj Zm mG]
     constructor
     ·rintro(rfl|h)
      ·obtain rfl:o=oj:=by rw[ho] at Zm;exact aa5 Zm
       exact absurd mG hx
      ·exact h
     ·exact .inr
   ·intro x
    by_cases hx:x∈(mL.getD i ([],[])).2
    ·refine⟨i+1,by omega,?_,fun j oj Zm mG=>?_⟩
     ·rw[Xk];exact S3 _ _ _ _ (by rw[hlen i (by omega),VY]) (by rw[←aaM];exact hx)
     ·rw[DR]
      by_cases pL:j=i
      ·subst pL;exact⟨fun _=>by omega,fun _=>.inl rfl⟩
      ·have:=aaG j oj Zm (fun h=>pL h.symm) (aaA j oj Zm (fun h=>pL h.symm) (.inr ⟨x,mG,.inr hx⟩))
       constructor
       ·rintro(h|h)
        ·exact absurd h pL
        ·have:=this.1 h;omega
       ·intro h;exact .inr (this.2 (by omega))
    ·obtain⟨t,ht,UW,hw⟩:=hH x
     refine⟨t,ht,by rw[←UW];exact RA _ _ _ (by rw[←aaM];exact hx),fun j oj Zm mG=>?_⟩
     rw[DR,←hw j oj Zm mG]
     constructor
     ·rintro(rfl|h)
      ·exact absurd mG hx
      ·exact h
     ·exact .inr
  have hρ:∀ x,x∈o.op.operands→ρ (S i).env x=ρ cur.env x:=fun x hx=>VS fun t ht=>(aaH t (I1 (by rw[←ht];exact hx))).symm
  have Vw:cur.H.length=(S i).H.length:=by rw[VY,hlen i (by omega)]
  unfold wpOp
  simp only[ho]
  obtain⟨h1,h2,g,h3,h4,h5⟩:=Vc
  obtain⟨dst,op,ty,pos,after,guard⟩:=o
  cases guard with
  |none=>
   simp only at aaK
   simp only[Region.wanted,abh]
   have Wr:=(aaK cur.H Vw (fun id hid=>aaD id (by
    rcases ab'.1 hid with h|h
    ·exact .inl h
    ·exact .inr (by rw[aaM];exact h)))).congr hρ
   refine .inl (aO.wp (Wr g w a.eval pos after none dst h3 (fun x _=>cu.eval h5 x)) ?_)
   rintro rv w' ⟨g',lN,he,hr⟩
   exact NY _ _ _ (jv.put h1 h2 h4 h5 hdn lN he hr) rfl
  |some gw=>
   obtain⟨j,want⟩:=gw
   simp only at aaK
   obtain⟨hws,t,hj,qi,aaQ⟩:=aaK
   have ht:cur.env t=(S i).env t:=aaH t (LC (want:=want) rfl hj)
   have hy:=wm (ops:=ops) h5 hj (by rw[h2];exact qi)
   have hH0:xD cur.H (ws i)=cur.H:=by rw[hws];rfl
   rcases aaQ with ⟨b,q,u,hb,hq,hv,Wr⟩|⟨p,b,q,u,hb,hq,hv,Wr⟩
   ·have hy1:=hy.1 b (by rw[ht];exact hb)
    simp only[Region.wanted,hy1]
    by_cases Xx:b=want
    ·subst Xx
     simp only[adK,abh] at hq ⊢
     have aaN:=(Wr rfl cur.H Vw (fun id hid=>aaD id (.inl hid))).congr hρ
     refine .inl (aO.wp (aaN g w a.eval pos after _ dst h3 (fun x _=>cu.eval h5 x)) ?_)
     rintro rv w' ⟨g',lN,he,hr⟩
     refine NY _ _ cur.H ?_ hH0.symm
     rw[hv]
     exact jv.put h1 h2 h4 h5 hdn lN he (.when (fun _=>hr) (fun hc=>by rw[hq] at hc;cases hc))
    ·have hf:(some b==some want)=false:=by simpa using Xx
     have Pp:(b==want)=false:=by simpa using Xx
     simp only[hf,aaU,abb]
     refine NY _ _ cur.H ?_ hH0.symm
     rw[hv]
     exact jv.put h1 h2 h4 h5 hdn h3 (.refl _ _) (.when (fun h=>by rw[hq,Pp] at h;cases h) (fun _=>rfl))
   ·have hy1:=hy.2 p b (by rw[ht];exact hb)
    simp only[Region.wanted,hy1]
    by_cases Xx:p=true∧b=want
    ·obtain⟨rfl,rfl⟩:=Xx
     simp only[adK,abh,ac0] at hq ⊢
     have aaN:=(Wr rfl rfl cur.H Vw (fun id hid=>aaD id (.inl hid))).congr hρ
     refine .inl (aO.wp (aaN g w a.eval pos after _ dst h3 (fun x _=>cu.eval h5 x)) ?_)
     rintro rv w' ⟨g',lN,he,hr⟩
     refine NY _ _ cur.H ?_ hH0.symm
     rw[hv]
     exact jv.put h1 h2 h4 h5 hdn lN he (.when (fun _=>hr) (fun hc=>by rw[hq] at hc;cases hc))
    ·have hf:((if p=true then some b else none)==some want)=false:=by
      cases p<;>simp_all
     have Pp:(p&&(b==want))=false:=by
      cases p<;>simp_all
     simp only[hf,aaU,abb]
     refine NY _ _ cur.H ?_ hH0.symm
     rw[hv]
     exact jv.put h1 h2 h4 h5 hdn h3 (.refl _ _) (.when (fun h=>by rw[hq,Pp] at h;cases h) (fun _=>rfl))
 have TB:∀ (fuel:Nat) (listed:Array Bool) (a:Act) (w:World),J listed a w→(List.range ops.size).countP (fun i=>!listed.getD i true)≤fuel→
   wpAny F.P .any ops (fun e a' w'=>∃ mH,jv F mH a' w'∧Q e mH) fuel listed a w:=by
  intro fuel
  induction fuel with
  |zero=>
   intro listed a w hJ hc
   have hr:Region.ready .any ops listed=[]:=by
    have h0:(List.range ops.size).countP (fun i=>!listed.getD i true)=0:=by omega
    rw[List.countP_eq_zero] at h0
    apply ac6.2
    intro x hx
    have:=h0 x hx
    simp only[Bool.not_eq_true,ad1] at this
    simp[this]
   exact⟨hr,RT listed a w hJ hr⟩
  |succ fuel ih=>
   intro listed a w hJ hc
   refine⟨fun hr=>RT listed a w hJ hr,fun i hi=>?_⟩
   refine wpOp_mono (fun a' w' hJ'=>ih _ a' w' hJ' ?_) (eL listed a w i hJ hi)
   have uC:=hi
   simp only[Region.ready,abT,ach,aaT,abC] at uC
   obtain⟨aN,Zk,_⟩:=uC
   have S4:i<listed.size:=by have:=hJ.1;omega
   have key:∀ l:List Nat,l.Nodup→i∈l→l.countP (fun k=>!(listed.setIfInBounds i true).getD k true)+1=l.countP (fun k=>!listed.getD k true):=by
    intro l
    induction l with
    |nil=>intro _ h;cases h
    |cons y l ihl=>
     intro Vi mG
     rw[aek] at Vi
     by_cases hy:y=i
     ·subst hy
      have n4:l.countP (fun k=>!(listed.setIfInBounds y true).getD k true)=l.countP (fun k=>!listed.getD k true):=by
       apply List.countP_congr
       intro k hk
       have aR:y≠k:=fun e=>Vi.1 (e▸hk)
       simp[abB,abD aR]
      have e1:(listed.setIfInBounds y true).getD y true=true:=by simp[Array.getD,S4]
      rw[ads,ads,n4,e1,Zk]
      simp
     ·have aaR:i∈l:=by rcases abq.1 mG with h|h;exact absurd h.symm hy;exact h
      have e1:(listed.setIfInBounds i true).getD y true=listed.getD y true:=by simp[abB,abD (acN hy)]
      have:=ihl Vi.2 aaR
      rw[ads,ads,e1];omega
   have:=key (List.range ops.size) List.nodup_range (ach.2 aN)
   omega
 intro a w hs
 refine wp_region_any hm (TB ops.size _ a _ ⟨by simp,?_,st,?_,rfl,?_,?_⟩ ?_)
 ·intro j o ho hl
  have:j<ops.size:=(abd.1 ho).1
  simp[Array.getD,this] at hl
 ·obtain⟨h1,h2,g,h3,h4,h5⟩:=hs
  let w':World:={w with drawn:=w.drawn+1 }
  have bK:cG g w g w':=⟨⟨rfl,rfl,rfl⟩,aaZ _,fun _ _ h=>⟨h,rfl⟩,fun _ _ h=>.inl h,fun _ h=>.inl h,fun _ _ _=>rfl,fun _ _ h=>h,fun _ m a cap h=>⟨m,a,cap,h,.inr ⟨rfl,rfl,rfl⟩⟩⟩
  have lN:aQ g w' st.H:=⟨h3.pr,h3.xs,h3.aD,h3.sep,fun id c hc=>by
   obtain⟨b,arr,et,e1,e2,e3,e4,e5⟩:=h3.row id c hc
   exact⟨b,arr,et,e1,e2,e3,fun k x v hx hv=>(e4 k x v hx hv).mono bK,e5⟩,h3.tok,fun id l e s hc=>by
   obtain⟨a,cap,k1,k2,k3,k4⟩:=h3.bn id l e s hc
   refine⟨a,cap,k1,k2,k3,fun aN=>?_⟩
   obtain⟨b,arr,q1,q0,q2,q3,q4,q5⟩:=k4 aN
   exact⟨b,arr,q1,q0,q2,q3,q4,fun k x v hx hv=>(q5 k x v hx hv).mono bK.pr⟩,fun id x hc=>by
   obtain⟨b,q1,q2,q3,q4⟩:=h3.ob id x hc
   exact⟨b,q1,x.st bK.w rfl rfl rfl (fun _ _=>rfl) q2,q3,q4⟩,h3.free,h3.Ca bK⟩
  exact⟨h1,h2,g,lN,h4.trans bK,fun i=>(h5 i).mono bK⟩
 ·intro x
  refine⟨0,acp _,by rw[hS0],fun j o ho _=>?_⟩
  have:j<ops.size:=(abd.1 ho).1
  simp[Array.getD,this]
 ·intro x
  refine⟨0,acp _,by rw[hS0],fun j o ho _=>?_⟩
  have:j<ops.size:=(abd.1 ho).1
  simp[Array.getD,this]
 ·exact abE aep (by simp)
theorem AW.ml{Q:Exit→St→Prop}{id:Nat}{y:Code}(mL:List (List Nat×List Nat))(hm:F.P.follows .mixedOrders=true)(D0:Vt ops mL=true)(h:AD F ops (AW F y Q) ops.toList mL st):AW F (.seq (.region id ops true) y) Q st:=
 AW.seq (AW.drawn (Q:=oT (AW F y Q) Q) mL hm D0 h)
theorem AW.free{Q:Exit→St→Prop}{c:Code}{E:Nat→V}{H:List HE}(h:AW F c Q ⟨E,H++[.free]⟩):AW F c Q ⟨E,H⟩:=by
 rintro a w ⟨h1,h2,g,h3,h4,h5⟩
 exact h a w ⟨h1,h2,g,h3.il,h4,h5⟩
end
section
variable {P:Program}{ρ:Operand→V}{H:List HE}{ty:TypeId}
theorem Ks{t id:Nat}{zs:List Value}(hz:Zr P t zs)(hH:H[id]?=some .free):bj P (.alloc t) ty ρ H (.ptr id 0) (H.set id (.row (zs.map vT))):=by
 intro g w r pos after guard dst hw h
 obtain⟨i,z,hi,ug,CE,hz3⟩:=hz.z
 obtain⟨g',h1,h2,h3⟩:=aQ.new (id:=id) (c:=zs.map vT) (arr:=z.cells) (et:=t) hw hH (by simp[←CE]) (fun k x v hx hv=>by
  simp only[aba,aa6] at hx
  obtain⟨y,hy,rfl⟩:=hx
  rw[←CE,aa0,hv] at hy
  obtain rfl:=aa5 hy
  exact cu.vT _ _ _)
 unfold aO
 simp only[execOp,Instr.alloc,abl,aX hi ug,aa3,newVar,newRow,ac7,abu]
 exact⟨g',h1,h2,.ptr h3⟩
end
end Go.Proofs.YtjdnbobilgamdaaGreatDoor.Ab
end
section
namespace Go.Proofs.YtjdnbobilgamdaaGreatDoor.Ab
open Go
theorem aQ.g0{g:G}{w:World}{n:Nat}{H:List HE}(h:aQ g w H)(hn:H.length≤n):∀ id,n≤id→g.σ id=none∧g.τ id=none:=fun id hid=>⟨(h.free id (.inr (by omega))).1,(h.free id (.inr (by omega))).2.1⟩
section
variable {P:Program}{ρ:Operand→V}{H:List HE}{ty:TypeId}
theorem D3{t:TypeId}(ht:P.underlying t=some .bool)(a b:Bool)(w:World)(d:Nat):(Op.equalIn (d+1) t (.bool a) (.bool b)).run P w=.ok (a==b) w:=by simp[Op.equalIn,aaX ht]
theorem xR{t:TypeId}{x y:Value}{b:Bool}{w:World}(h:∀ d,(Op.equalIn (d+1) t x y).run P w=.ok b w):(Op.equal t x y).run P w=.ok b w:=h 9999
theorem Fz{t:TypeId}(ht:P.underlying t=some .bool)(a b:Bool)(w:World):(binOp .neq t (.bool a) (.bool b)).run P w=.ok (.bool (!(a==b))) w:=by
 show(Op.equal t (.bool a) (.bool b) >>=fun x=>pure (Value.bool (!x))).run P w=_
 rw[abl,xR (D3 ht a b w)];rfl
theorem PN{x y:Operand}{t u:TypeId}{a b:Bool}(hx:As (ρ x) (.bool a))(hy:As (ρ y) (.bool b))(ht:P.underlying t=some .bool):bj P (.binOp .neq t x y u) ty ρ H (.d (.bool (!(a==b)))) H:=
 bj.aW fun _ _ _ _ h=>⟨.bool (!(a==b)),fun _ _ _ _=>by simp[execOp,hx.bool (h x (by simp[Op.operands])),hy.bool (h y (by simp[Op.operands])),eqGuard,Fz ht],.d (.bool _)⟩
def loV(ρ:Operand→V):Option Operand→Nat→Prop
 |none,lo=>lo=0
 |some x,lo=>∃ n,As (ρ x) (.int .i64 n)∧n=(lo:Int)
def hiV(ρ:Operand→V)(len:Nat):Option Operand→Nat→Prop
 |none,hi=>hi=len
 |some x,hi=>∃ n,As (ρ x) (.int .i64 n)∧n=(hi:Int)
theorem aV.piece{Pr:Nat→Nat→Prop}{w:World}{l:List D}{a:Option Addr}{cap s lo hi:Nat}(h:aV Pr w (.sl l) (.slice a l.length cap))(hs:∀ x∈l,x.cells.length=s)(h1:lo≤hi)(h2:hi≤l.length):
  aV Pr w (.sl ((l.take hi).drop lo)) (.slice (if cap=lo then a else a.map (·.add (lo*s))) (hi-lo) (cap-lo)):=by
 generalize hv:Value.slice a l.length cap=v at h
 cases h with
 |sl _ a' eZ s' f OP ji k_ gM=>
  injection hv with e1 e2 e3
  subst e1;subst e3
  have hlen:((l.take hi).drop lo).length=hi-lo:=by simp;omega
  have mG:∀ x∈(l.take hi).drop lo,x∈l:=fun x hx=>adN (List.mem_of_mem_drop hx)
  have key:=aV.sl (Pr:=Pr) (w:=w) ((l.take hi).drop lo) (if cap=lo then a else a.map (·.add (lo*s))) (cap-lo) s (fun k=>f (lo*s+k)) (fun x hx=>hs x (mG x hx)) (by omega)
   (fun aR=>by
    have aN:lo<hi:=by
     rcases ab8 lo hi with h|h
     ·exact h
     ·exfalso;apply aR;apply acm;omega
    have hl:l≠[]:=fun e=>by subst e;simp at h2;omega
    obtain⟨b,o,rfl,hk⟩:=k_ hl
    have CS:s'=s:=by
     obtain⟨x0,sb⟩:=ad4 l hl
     rw[←OP x0 sb,hs x0 sb]
    subst CS
    rw[aa7 (by omega)]
    refine⟨b,o+lo*s',by simp[Addr.aT],fun k xA=>?_⟩
    have S4:lo*s'+k<l.length*s':=by
     have e1:(hi-lo)*s'=hi*s'-lo*s':=Nat.sub_mul _ _ _
     have e2:hi*s'≤l.length*s':=abg _ h2
     have e3:lo*s'≤hi*s':=abg _ h1
     rw[hlen,e1] at xA;omega
    have:=hk (lo*s'+k) S4
    rwa[←Nat.add_assoc] at this)
   (fun k x hx=>by
    refine gM (lo*s+k) x ?_
    have hk:k<(hi-lo)*s:=by
     have:=(aaS.1 hx).1
     rw[dG (fun x hx=>hs x (mG x hx)),hlen] at this;exact this
    have pV:0<s:=by
     rcases adY s with h|h
     ·subst h;simp at hk
     ·exact h
    have e0:k=k/s*s+k%s:=by rw[ac'];exact(adQ k s).symm
    have hq:k/s<hi-lo:=Nat.div_lt_of_lt_mul (by rw[ac'];exact hk)
    have hr:k%s<s:=adx _ pV
    have hg:((l.take hi).drop lo)[k/s]?=some l[lo+k/s]:=by
     rw[abn,abj,aa2 (by omega),aaV]
    rw[e0,sA (fun x hx=>hs x (mG x hx)) hg hr] at hx
    have e4:lo*s+k=(lo+k/s)*s+k%s:=by rw[abV];omega
    rw[e4,sA hs (aaV (by omega)) hr]
    exact hx)
  rwa[hlen] at key
theorem LS{x:Operand}{t e s bytes lo hi:Nat}{a b:Option Operand}{l:List D}(hx:As (ρ x) (.sl l))(ht:pt P t e s bytes)(ha:loV ρ a lo)(hb:hiV ρ l.length b hi)(h1:lo≤hi)(h2:hi≤l.length)
  (hs:∀ x∈l,x.cells.length=s):bj P (.slice t x a b none) ty ρ H (.d (.sl ((l.take hi).drop lo))) H:=
 bj.aW fun g w r _ h=>by
  have hd:=hx.rep (h x (by cases a<;>cases b<;>simp[Op.operands]))
  obtain⟨ad,cap,hr,ji⟩:=kE hd
  rw[hr] at hd
  obtain⟨ie,z,im,dE,_⟩:=ht.i
  refine⟨_,fun _ _ _ _=>?_,.d (hd.piece hs h1 h2)⟩
  have Lx:∀ y,Instr.sliceBound (.int .i64 (lo:Int)) y .sliceB=if lo≤y then pure lo else boundsPanic .i64 lo y .sliceB:=fun y=>by
   simp only[Instr.sliceBound,asIntOf]
   by_cases h:lo≤y
   ·simp[h]
   ·simp[h]
  have Py:∀ y,Instr.sliceBound (.int .i64 (hi:Int)) y .sliceAcap=if hi≤y then pure hi else boundsPanic .i64 hi y .sliceAcap:=fun y=>by
   simp only[Instr.sliceBound,asIntOf]
   by_cases h:hi≤y
   ·simp[h]
   ·simp[h]
  have AM:hi≤cap:=by omega
  cases a with
  |none=>
   have h0:lo=0:=ha
   subst h0
   cases b with
   |none=>
    have h0:hi=l.length:=hb
    subst h0
    simp[execOp,Instr.sliceAt,Instr.slice,Instr.sliceBounds,aaX ht.u,hr,aq im,dE]
   |some y=>
    obtain⟨n,Hz,rfl⟩:=hb
    have:=Hz.int (h y (by simp[Op.operands]))
    simp[execOp,Instr.sliceAt,Instr.slice,Instr.sliceBounds,aaX ht.u,hr,this,Py,AM,aq im,dE]
  |some z=>
   obtain⟨n,Hz,rfl⟩:=ha
   have hz:=Hz.int (h z (by simp[Op.operands]))
   cases b with
   |none=>
    have h0:hi=l.length:=hb
    subst h0
    simp[execOp,Instr.sliceAt,Instr.slice,Instr.sliceBounds,aaX ht.u,hr,hz,Lx,h1,aq im,dE]
   |some y=>
    obtain⟨n,Hz,rfl⟩:=hb
    have:=Hz.int (h y (by simp[Op.operands]))
    simp[execOp,Instr.sliceAt,Instr.slice,Instr.sliceBounds,aaX ht.u,hr,hz,this,Py,AM,Lx,h1,aq im,dE]
theorem v_:∀ {l:List D},(∀ x∈l,x.cells=[x])→D.flat l=l
 |[],_=>rfl
 |a::l,h=>by
  have:=v_ (l:=l) (fun x hx=>h x (by simp[hx]))
  simp only[D.flat,acV,h a (by simp)] at this ⊢
  rw[this];rfl
theorem LU{x:Operand}{t u e:TypeId}{s:List UInt8}(hx:As (ρ x) (.str s))(ht:P.underlying t=some .string)(hu:P.underlying u=some (.slice e))(he:P.underlying e=some (.int .u8)):
  bj P (.convert t u x) ty ρ H (.d (.sl (s.map fun c=>.int .u8 c.toNat))) H:=by
 intro g w r pos after guard dst hw h
 have h1:=hx.str (h x (by simp[Op.operands]))
 unfold aO
 simp only[execOp,h1,abl,Lib.run_convert_string_bytes w t u e ⟨s.toArray⟩ ht hu he,aa3,abu]
 obtain⟨g',w1,w2,w3⟩:=hw.Rx (w':=Lib.bytesWorld w e ⟨s.toArray⟩) (by simp[Lib.bytesWorld,World.freeze,World.alloc,World.drew,-World.alloc_eq,-World.drew_eq]) (Lib.bytesWorld_size w e _) (fun b hb=>Lib.bytesWorld_at_old w e _ b hb) (Lib.bytesWorld_at_new w e _)
 refine⟨g',w1,w2,?_⟩
 have dE:s.length≤(Lib.bytesCells w e ⟨s.toArray⟩).size:=by simp[Lib.bytesCells]
 have key:=aV.sl (Pr:=g'.Pr) (w:=Lib.bytesWorld w e ⟨s.toArray⟩) (s.map fun c=>D.int .u8 c.toNat) (some ⟨w.heap.size,0,none⟩) (grownCap w s.length 0 e) 1 (fun k=>.int .u8 (s.getD k 0).toNat)
  (fun x hx=>by simp only[abS] at hx;obtain⟨c,_,rfl⟩:=hx;rfl) (by have:=adV w s.length 0 e;simpa using this)
  (fun _=>⟨w.heap.size,0,rfl,fun k hk=>by
   have JZ:k<s.length:=by simpa using hk
   refine⟨w3 _ (by omega),?_⟩
   rw[abY,Lib.bytesWorld_cell w e ⟨s.toArray⟩ k (by rw[tB];exact JZ)]⟩)
  (fun k x hx=>by
   have hf:D.flat (s.map fun c=>D.int .u8 c.toNat)=s.map fun c=>D.int .u8 c.toNat:=v_ (fun x hx=>by simp only[abS] at hx;obtain⟨c,_,rfl⟩:=hx;rfl)
   rw[hf,aba,aa6] at hx
   obtain⟨c,hc,rfl⟩:=hx
   have:s.getD k 0=c:=by simp[List.getD,hc]
   rw[this];exact .int _ _)
 simp only[aa4] at key
 rw[tB]
 exact .d key
end
end Go.Proofs.YtjdnbobilgamdaaGreatDoor.Ab
end
section
namespace Go.Proofs.YtjdnbobilgamdaaGreatDoor.Ab
open Go
theorem getD_some{α:Type}{l:List α}{k:Nat}{d:α}(h:k<l.length):l[k]?=some (l.getD k d):=by simp[List.getD,h]
theorem jT{x:Int}(h1:-9223372036854775808≤x)(h2:x≤9223372036854775807):IntKind.i64.wrap x=x:=IntWalk.i64_in x ⟨h1,h2⟩
theorem UU{a b:Int}(ha:0≤a)(hb:0<b)(h2:a≤9223372036854775807):IntKind.i64.wrap (a.tdiv b)=a/b:=by
 have h0:a.tdiv b=a/b:=Int.tdiv_eq_ediv_of_nonneg ha
 have h3:a/b≤a:=Int.ediv_le_self b ha
 have h4:0≤a/b:=Int.ediv_nonneg ha (by omega)
 rw[h0];exact jT (by omega) (by omega)
section
variable {P:Program}{ρ:Operand→V}{H:List HE}{ty:TypeId}
theorem O0{x:Operand}{t e s bytes n:Nat}{l:List D}(hx:As (ρ x) (.sl l))(hl:l.length=n)(ht:pt P t e s bytes):bj P (.call ⟨.builtin .len,#[x],#[t]⟩) ty ρ H (.d (.int .i64 (n:Int))) H:=hl▸Sf hx ht
theorem Au{x:Operand}{t n:Nat}{c:List D}(hx:Is (ρ x) (.vp c 0))(hn:c.length=n)(ht:Ag P t n):bj P (.load t x) ty ρ H (.d (.agg c)) H:=
 EU hx (by simp[←hn]) hn ht
end
inductive Sh:List V→List V→Prop
 |nil:Sh [] []
 |cons {v u:V} {c d:List V}:Le v u→Sh c d→Sh (v::c) (u::d)
inductive O1:List HE→List HE→Prop
 |nil:O1 [] []
 |same {e:HE} {H H':List HE}:O1 H H'→O1 (e::H) (e::H')
 |kill {e:HE} {H H':List HE}:O1 H H'→O1 (e::H) (.dead::H')
 |row {c d:List V} {H H':List HE}:Sh c d→O1 H H'→O1 (.row c::H) (.row d::H')
theorem Sh.get{c d:List V}(h:Sh c d):c.length=d.length∧∀ (i:Nat) u,d[i]?=some u→∃ v,c[i]?=some v∧Le v u:=by
 induction h with
 |nil=>simp
 |cons hv _ ih=>
  refine⟨by simp[ih.1],fun i u hu=>?_⟩
  cases i with
  |zero=>simp only[aa',aaW] at hu;subst hu;exact⟨_,rfl,hv⟩
  |succ i=>exact ih.2 i u (by simpa using hu)
theorem O1.get{H H':List HE}(h:O1 H H'):H.length=H'.length∧∀ (i:Nat) e,H'[i]?=some e→∃ e0,H[i]?=some e0∧(e0=e∨(e=.dead∧True)∨∃ c d,e0=.row c∧e=.row d∧Sh c d):=by
 induction h with
 |nil=>simp
 |same _ ih=>
  refine⟨by simp[ih.1],fun i e he=>?_⟩
  cases i with
  |zero=>exact⟨_,rfl,.inl (by simpa using he)⟩
  |succ i=>exact ih.2 i e (by simpa using he)
 |kill _ ih=>
  refine⟨by simp[ih.1],fun i e he=>?_⟩
  cases i with
  |zero=>exact⟨_,rfl,.inr (.inl ⟨by simpa using he.symm,trivial⟩)⟩
  |succ i=>exact ih.2 i e (by simpa using he)
 |row hc _ ih=>
  refine⟨by simp[ih.1],fun i e he=>?_⟩
  cases i with
  |zero=>exact⟨_,rfl,.inr (.inr ⟨_,_,rfl,by simpa using he.symm,hc⟩)⟩
  |succ i=>exact ih.2 i e (by simpa using he)
section
variable {P:Program}{ρ:Operand→V}{H:List HE}{ty:TypeId}{α:Type}{f:α→D}{l:List α}
end
theorem kg.of{P:Program}{rs:List ResultVar}{R:V→List HE→Prop}{e:Exit}{st:St}(h:False):kg P rs R e st:=h.elim
def LI:List (Nat×List V)→List V
 |[]=>[]
 |(_,c)::r=>c++LI r
def IF(s:Nat):Nat→List (Nat×List V)→Bool
 |_,[]=>true
 |off,(o,c)::r=>o==off&&(c.length==s&&IF s (off+s) r)
theorem Cz{s:Nat}:∀ {q:List (Nat×List V)} {pre rest:List V},IF s pre.length q=true→rest.length=q.length*s→uB (pre++rest) q=pre++LI q
 |[],pre,rest,_,hr=>by
  have:rest=[]:=acm (by simpa using hr)
  simp[uB,LI,this]
 |(off,c)::r,pre,rest,hq,hr=>by
  simp only[IF,aaT,ad6] at hq
  obtain⟨h1,h2,h3⟩:=hq
  simp only[abp,Nat.succ_mul] at hr
  have O2:eK (pre++rest) off c=(pre++c)++rest.drop s:=by
   simp only[fT,h1,h2]
   rw[List.take_left',List.drop_append]
   ·simp
   ·rfl
  have:=Cz (s:=s) (q:=r) (pre:=pre++c) (rest:=rest.drop s) (by rw[aa9,h2];exact h3) (by rw[ack];omega)
  rw[uB,O2,this,LI,abk]
theorem bY{P:Program}{ρ:Operand→V}{H:List HE}{ty t n e s:Nat}{zs:List Value}{ps:Array (Nat×Operand)}{q:List (Nat×List V)}(hb:Ba P t zs n e s)
  (hp:Av ρ ((List.range n).map fun i=>(i*s,s)) zs.length ps.toList q)(ho:IF s 0 q=true)(hl:zs.length=q.length*s):
  bj P (.build t ps) ty ρ H (.agg (LI q)) H:=by
 have:=mu (ty:=ty) (H:=H) hb hp
 have e:=Cz (s:=s) (q:=q) (pre:=[]) (rest:=zs.map vT) ho (by simpa using hl)
 rw[acU,acU] at e
 rw[e] at this
 exact this
def D.pl:D→Bool
 |.agg _|.gd _|.raw _=>false
 |_=>true
section
variable {F:FC}{K:St→Prop}{E:Nat→V}{H:List HE}{ops:Array Oper}{dst:Option Nat}{o:Op}{ty:TypeId}{pos:String}{after:Array Edge}{rest:List Oper}{v:V}{j t:Nat}{b p:Bool}{rd wr:List Nat}{mL:List (List Nat×List Nat)}
theorem AL.s{H':List HE}(hd:vU dst F.n=true)(h:bj F.P o ty (ρ E) H v H')(k:AL F ops K rest ⟨lL E dst v,H'⟩):AL F ops K (⟨dst,o,ty,pos,after,none⟩::rest) ⟨E,H⟩:=AL.step hd h k
theorem AL.sT(hj:(ops[j]?).bind (·.dst)=some t)(qi:Nat.blt t F.n=true)(hb:E t=.d (.bool b))(hd:vU dst F.n=true)
  (h:b=true→bj F.P o ty (ρ E) H v H)(k:AL F ops K rest ⟨lL E dst (.when b v),H⟩):AL F ops K (⟨dst,o,ty,pos,after,some (j,true)⟩::rest) ⟨E,H⟩:=AL.stepT hj qi hb hd h k
theorem AL.sF(hj:(ops[j]?).bind (·.dst)=some t)(qi:Nat.blt t F.n=true)(hb:E t=.d (.bool b))(hd:vU dst F.n=true)
  (h:b=false→bj F.P o ty (ρ E) H v H)(k:AL F ops K rest ⟨lL E dst (.when (!b) v),H⟩):AL F ops K (⟨dst,o,ty,pos,after,some (j,false)⟩::rest) ⟨E,H⟩:=AL.LJ hj qi hb hd h k
theorem AL.EV(hj:(ops[j]?).bind (·.dst)=some t)(qi:Nat.blt t F.n=true)(hb:E t=.when p (.d (.bool b)))(hd:vU dst F.n=true)
  (h:p=true→b=true→bj F.P o ty (ρ E) H v H)(k:AL F ops K rest ⟨lL E dst (.when (p&&b) v),H⟩):AL F ops K (⟨dst,o,ty,pos,after,some (j,true)⟩::rest) ⟨E,H⟩:=AL.G0 hj qi hb hd h k
theorem AL.Uy(hj:(ops[j]?).bind (·.dst)=some t)(qi:Nat.blt t F.n=true)(hb:E t=.when p (.d (.bool b)))(hd:vU dst F.n=true)
  (h:p=true→b=false→bj F.P o ty (ρ E) H v H)(k:AL F ops K rest ⟨lL E dst (.when (p&&!b) v),H⟩):AL F ops K (⟨dst,o,ty,pos,after,some (j,false)⟩::rest) ⟨E,H⟩:=AL.G1 hj qi hb hd h k
theorem AD.s{ws:List (Nat×HE)}(hd:vU dst F.n=true)(hw:wr=ws.map (·.1))(h:∀ H',H'.length=H.length→(∀ id,id∈rd++ws.map (·.1)→H'[id]?=H[id]?)→bj F.P o ty (ρ E) H' v (xD H' ws))
  (k:AD F ops K rest mL ⟨lL E dst v,xD H ws⟩):AD F ops K (⟨dst,o,ty,pos,after,none⟩::rest) ((rd,wr)::mL) ⟨E,H⟩:=AD.step hd hw h k
theorem AD.sT(hj:(ops[j]?).bind (·.dst)=some t)(qi:Nat.blt t F.n=true)(hb:E t=.d (.bool b))(hd:vU dst F.n=true)
  (h:b=true→∀ H',H'.length=H.length→(∀ id,id∈rd→H'[id]?=H[id]?)→bj F.P o ty (ρ E) H' v H')(k:AD F ops K rest mL ⟨lL E dst (.when b v),H⟩):
  AD F ops K (⟨dst,o,ty,pos,after,some (j,true)⟩::rest) ((rd,[])::mL) ⟨E,H⟩:=AD.stepT hj qi hb hd h k
theorem AD.sF(hj:(ops[j]?).bind (·.dst)=some t)(qi:Nat.blt t F.n=true)(hb:E t=.d (.bool b))(hd:vU dst F.n=true)
  (h:b=false→∀ H',H'.length=H.length→(∀ id,id∈rd→H'[id]?=H[id]?)→bj F.P o ty (ρ E) H' v H')(k:AD F ops K rest mL ⟨lL E dst (.when (!b) v),H⟩):
  AD F ops K (⟨dst,o,ty,pos,after,some (j,false)⟩::rest) ((rd,[])::mL) ⟨E,H⟩:=AD.LJ hj qi hb hd h k
theorem AD.EV(hj:(ops[j]?).bind (·.dst)=some t)(qi:Nat.blt t F.n=true)(hb:E t=.when p (.d (.bool b)))(hd:vU dst F.n=true)
  (h:p=true→b=true→∀ H',H'.length=H.length→(∀ id,id∈rd→H'[id]?=H[id]?)→bj F.P o ty (ρ E) H' v H')(k:AD F ops K rest mL ⟨lL E dst (.when (p&&b) v),H⟩):
  AD F ops K (⟨dst,o,ty,pos,after,some (j,true)⟩::rest) ((rd,[])::mL) ⟨E,H⟩:=AD.G0 hj qi hb hd h k
theorem AD.Uy(hj:(ops[j]?).bind (·.dst)=some t)(qi:Nat.blt t F.n=true)(hb:E t=.when p (.d (.bool b)))(hd:vU dst F.n=true)
  (h:p=true→b=false→∀ H',H'.length=H.length→(∀ id,id∈rd→H'[id]?=H[id]?)→bj F.P o ty (ρ E) H' v H')(k:AD F ops K rest mL ⟨lL E dst (.when (p&&!b) v),H⟩):
  AD F ops K (⟨dst,o,ty,pos,after,some (j,false)⟩::rest) ((rd,[])::mL) ⟨E,H⟩:=AD.G1 hj qi hb hd h k
end
section
variable {P:Program}{ρ:Operand→V}{H:List HE}{ty:TypeId}
theorem JX{x y:Operand}{t id off:Nat}{c:List V}{z:D}(hx:Is (ρ x) (.ptr id off))(hy:Is (ρ y) (.d z))(hH:H[id]?=some (.row c))(hv:V.cs (.d z)=[.d z])(h1:V.one (.d z)=true)
  (dE:∃ i,P.info? t=some i∧i.size=1)(hle:off+1≤c.length):bj P (.store t x y) ty ρ H .any (H.set id (.row (eK c off [.d z]))):=se hx hy hH hv (by simp[h1]) dE rfl hle
theorem JY{x y:Operand}{t n id off:Nat}{c cs:List V}(hx:Is (ρ x) (.ptr id off))(hy:Is (ρ y) (.agg cs))(hH:H[id]?=some (.row c))(h1:cs.all V.one=true)
  (dE:∃ i,P.info? t=some i∧i.size=n)(hn:cs.length=n)(hle:off+n≤c.length):bj P (.store t x y) ty ρ H .any (H.set id (.row (eK c off cs))):=se hx hy hH rfl h1 dE hn hle
end
end Go.Proofs.YtjdnbobilgamdaaGreatDoor.Ab
end
