/- Lists that are made where the order of evaluation is left open; calls that only read the heap. Pieces of lists that are written in place, and 'copy' into them. States told anew, slot by slot. Lists that may have room behind their last element: capacity, a piece into the spare room, copies within a list, zeros that are appended to a piece without room. Comparing rows of plain cells. Maps that are made and written here, and texts that are gone through: what operations on them come to. Conditions: none. -/
import Derived.Test.YtjdnbobilgamdaaGreatDoorAb21
import Derived.Scope
import Derived.Lib.Overlaps
import Derived.Lib.AppendZerosOnto
import Derived.Laws.StructEq
import Derived.KernelRfl
import Derived.Maps.RangeRun
import Derived.Maps.Keyed
section
namespace Go.Proofs.YtjdnbobilgamdaaGreatDoor.Ab
open Go
section
variable {P:Program}{ρ:Operand→V}{H:List HE}{ty:TypeId}
theorem E9{α:Type}{f:α→D}{z:α}{r:List α}{x:Operand}{t e s bytes res:Nat}{zs:List Value}{a:Int}(hx:As (ρ x) (.int .i64 a))(ht:pt P t e s bytes)(hz:Zr P e zs)(hf:(f z).cells=zs.map ue)
  (tr:H[res]?=some .free)(hv:IN bytes a z=some r):bj P (.makeSlice t x x) ty ρ H (.hs res 0 r.length s) (H.set res (.bn (r.map f) e s)):=by
 unfold IN at hv
 split at hv
 ·rename_i hc
  obtain⟨h0,h1,h2⟩:=hc
  injection hv with hv;subst hv
  intro g w r pos after guard dst hw h
  have CD:=hx.int (h x (by simp[Op.operands]))
  obtain⟨i,zv,hi,dE,yP,ug,CE⟩:=ht.i
  obtain⟨i',z',k1,k2,k3,k4⟩:=hz.z
  rw[hi] at k1;injection k1 with k1;subst k1
  rw[ug] at k2;injection k2 with k2;subst k2
  have dz:=run_make (P:=P) w t e i zv ht.u hi ug .i64 .i64 a a h0 (Int.le_refl _) (by rw[yP];have:((a.toNat*bytes:Nat):Int)=(bytes:Int)*a:=(by rw[Int.natCast_mul,acw h0,Int.mul_comm]);omega) (by omega)
  have Sq:zs.length=s:=au
  obtain⟨g',w1,w2,w3⟩:=hw.AB (w':=w.alloc (.cells (madeCells zv.cells (a.toNat*i.size)) e)) (id:=res) (l:=(List.replicate a.toNat z).map f) (s:=s) (cap:=a.toNat) (arr:=madeCells zv.cells (a.toNat*i.size)) (et:=e) tr ⟨rfl,rfl,rfl⟩ rfl (by simp) (by omega) (by rw[size_madeCells,dE]) (fun k x v hx hv=>by
   rw[List.map_replicate] at hx
   obtain⟨j,q1,q2⟩:=AE (s:=s) (by simp[Sq]) hf hx
   have hk:k<a.toNat*i.size:=by
    have:=(abd.1 hv).1
    rwa[size_madeCells] at this
   have U':0<s:=au
   have hj:j<zs.length:=au
   simp only[aba,aa6] at q1
   obtain⟨u,q3,rfl⟩:=q1
   have Ya:v=u:=by
    simp only[madeCells,ad2,Array.getElem?_range,hk,abh,abN,aaW] at hv
    exact au
   rw[Ya]
   exact aV.ue _ _ _)
  unfold aO
  simp only[execOp,CD,abl,dz,aa3,abu]
  refine⟨g',?_,?_,?_⟩
  ·exact w1
  ·exact w2
  ·exact .hs w3 (fun _=>⟨rfl,by simp,rfl,by simp⟩)
 ·cases hv
theorem E_{x y:Operand}{t e s bytes id res len:Nat}{l l':List D}(ht:pt P t e s bytes)(hx:Is (ρ x) (.hs id 0 len s))(hy:As (ρ y) (.sl l'))(hH:H[id]?=some (.bn l e s))(Sw:l.length=len)(tr:H[res]?=some .free)
  (hs:∀ x∈l++l',x.cells.length=s)(eL:∀ x∈l',∀ y∈x.cells,y.one=true)(iv:(l++l').length*bytes≤140737488355328)(hlen:(l++l').length≤4611686018427387904):
  bj P (.call ⟨.builtin .append,#[x,y],#[t,t]⟩) ty ρ H (.hs res 0 (l++l').length s) ((H.set id .dead).set res (.bn (l++l') e s)):=by
 subst Sw
 intro g w r pos after guard dst hw h
 have h1:=hx.rep (h x (by simp[Op.operands,Call.operands]))
 have h2:=hy.rep (h y (by simp[Op.operands,Call.operands]))
 have eC:id<H.length:=(aaS.1 hH).1
 obtain⟨a,cap,k1,k2,k3,k4⟩:=hw.bn id l e s hH
 generalize fQ:r x=vx at h1
 cases h1 with
 |@hs _ _ _ _ m eZ n0 c0 a' a0 p1 p2=>
  rw[k1] at p1;injection p1 with p1;injection p1 with p1 p3;injection p3 with p3 p4
  obtain⟨q1,q2,q3,_⟩:=pV (p2 p1.symm)
  subst q1;subst q3;subst p3;subst p4;subst q2
  have aR:res≠id:=fun h=>by subst h;rw[hH] at tr;cases tr
  have Yh:res<H.length:=(aaS.1 tr).1
  suffices wj:∃ rv w' g',(Builtin.append_ #[t,t] ty #[.slice a l.length cap,r y]).run P w=.ok rv w'∧aQ g' w' ((H.set id .dead).set res (.bn (l++l') e s))∧cG g w g' w'∧cu g' w' (.hs res 0 (l++l').length s) rv by
   obtain⟨rv,w',g',e1,e2,e3,e4⟩:=wj
   unfold aO
   have:(execOp r ⟨dst,.call ⟨.builtin .append,#[x,y],#[t,t]⟩,ty,pos,after,guard⟩).run P w=.ok (.value rv) w':=by
    simp[execOp,resolve,invoke,builtin,fQ,e1]
   exact au
  by_cases rS:l'=[]
  ·subst rS
   obtain⟨a',eZ,Hg,_⟩:=kE h2
   rw[Hg]
   obtain⟨g',w1,w2,w3,_⟩:=hw.wi hH tr
   refine⟨_,w,g',jw ht k2,by simpa using w1,w2,?_⟩
   rw[acz]
   exact .hs (w3.trans k1) (fun _=>⟨rfl,rfl,rfl,k2⟩)
  ·have rR:0<l'.length:=abA.2 rS
   obtain⟨ie,z,im,dE,yP,ug,CE⟩:=ht.i
   have Hi:∀ x∈l,x.cells.length=s:=fun x hx=>hs x (by simp[hx])
   have AI:∀ x∈l',x.cells.length=s:=fun x hx=>hs x (by simp[hx])
   obtain⟨b',o',eZ,f',Hg,_,JZ,E7,L0⟩:=h2.tt AI eL rS
   rw[Hg]
   have fl:=dG Hi
   have px:∀ (j:Nat) v,((List.range (l'.length*s)).map f')[j]?=some v→w.cell? ((⟨b',o',none⟩:Addr).add j)=some v:=by
    intro j v hv
    have hj:j<l'.length*s:=au
    rw[cJ _ _ _ hj] at hv
    rw[Addr.aT,(JZ j hj).2];exact hv
   have E8:∀ u∈(List.range (l'.length*s)).map f',u.oneCell'=true:=au
   have hmul:(l.length+l'.length)*s=l.length*s+l'.length*s:=abV _ _ _
   have cont:∀ (ki:List Value),(∀ (k:Nat) x v,(D.flat l)[k]?=some x→ki[k]?=some v→aV g.Pr w x v)→(∀ (k:Nat),k<l'.length*s→ki[l.length*s+k]?=some (f' k))→
     ∀ (k:Nat) x v,(D.flat (l++l'))[k]?=some x→ki[k]?=some v→aV g.Pr w x v:=by
    intro ki c1 c2 k x v hx hv
    rw[pY] at hx
    by_cases xA:k<l.length*s
    ·exact au
    ·rw[aaY (by omega),fl] at hx
     have oJ:k-l.length*s<l'.length*s:=by
      have:=(aaS.1 hx).1
      rw[dG AI] at this;exact this
     exact au
   by_cases jd:l.length+l'.length≤cap
   ·obtain⟨b,arr,rfl,uE,hb,jj,J_,Sx⟩:=k4 (by omega)
    have zp:l.length*s+l'.length*s≤arr.size:=by
     rw[jj,←hmul];exact abg _ jd
    have dz:=run_append_room (P:=P) w t ty e ie ht.u im b l.length cap arr hb ⟨b',o',none⟩ l'.length eZ ((List.range (l'.length*s)).map f') (by simp[dE]) px E8 jd (by rw[dE];simpa using zp)
    rw[dE] at dz
    obtain⟨g1,w1,w2,w3,w4,w5,_⟩:=hw.wi hH tr
    have key:=aQ.pw (w':=w.setRow b (arr.toList.take (l.length*s)++(List.range (l'.length*s)).map f'++arr.toList.drop (l.length*s+((List.range (l'.length*s)).map f').length)).toArray) (l':=l++l')
     (arr':=(arr.toList.take (l.length*s)++(List.range (l'.length*s)).map f'++arr.toList.drop (l.length*s+((List.range (l'.length*s)).map f').length)).toArray) (cap:=cap) (b:=b) w1 (id:=res) (by rw[acg (by simpa using Yh)]) (w3.trans k1) (by omega) (w4.trans uE)
     ⟨rfl,rfl,rfl⟩ (acJ w b _) (acR w b arr _ e _ hb) (fun Pj aR=>acQ w b Pj _ aR) (by simpa using jd) (by simp;omega)
     (by
      rw[w5]
      intro k x v hx hv
      rw[aca] at hv
      refine cont _ (fun k x v hx hv=>?_) (fun k hk=>?_) k x v hx hv
      ·have xA:k<l.length*s:=by rw[←fl];exact(aaS.1 hx).1
       rw[abk,aa1 (by simp;omega),abj,aa2 xA,aa0] at hv
       exact au
      ·rw[abk,aaY (by simp;omega),aa1 (by simp;omega)]
       have:l.length*s+k-(List.take (l.length*s) arr.toList).length=k:=by simp;omega
       rw[this];exact cJ f' _ _ hk)
    refine⟨_,_,g1,dz,?_,w2.trans key.2,?_⟩
    ·have:=key.1
     rwa[List.set_set] at this
    ·exact .hs (w3.trans k1) (fun _=>⟨rfl,by simp,rfl,by simpa using jd⟩)
   ·simp only[aa9] at iv hlen
    let dR:=l.length+l'.length
    let C:=grownCap w dR cap e
    have hC:dR≤C:=adV w dR cap e
    have J':C≤9223372036854775807:=by
     have:=ac9 w dR cap e (by simp only[maxLen];omega)
     exact au
    have lP:cap<l.length+l'.length:=by omega
    obtain⟨gf,yR,dz,Pp⟩:∃ (gf:List Value),gf.length=l.length*s∧
      (Builtin.append_ #[t,t] ty #[.slice a l.length cap,.slice (some ⟨b',o',none⟩) l'.length eZ]).run P w=
       .ok (.slice (some ⟨w.heap.size,0,none⟩) dR C) (w.drew.alloc (.cells (gf.toArray++((List.range (l'.length*s)).map f').toArray++Builtin.zeroCells z.cells (C-dR)) e))∧
      (∀ (k:Nat) x v,(D.flat l)[k]?=some x→gf[k]?=some v→aV g.Pr w x v):=by
     by_cases Rm:cap=0
     ·have Ye:l=[]:=acm (by omega)
      subst Ye
      refine⟨[],by simp,?_,by simp[D.flat]⟩
      cases a with
      |none=>
       subst Rm
       have:=run_append_nil (P:=P) w t ty e ie z ht.u im ug ⟨b',o',none⟩ l'.length eZ ((List.range (l'.length*s)).map f') (by simp[dE]) px rR (by omega) (by rw[yP];simp at iv;omega)
       simpa[dR,C] using this
      |some ad=>
       have:=adD (P:=P) w t ty e ie z ht.u im ug ad 0 cap [] (by simp) (by simp) ⟨b',o',none⟩ l'.length eZ ((List.range (l'.length*s)).map f') (by simp[dE]) px
        (by simpa using lP) (by simp at hlen ⊢;omega) (ac8 (by simpa using lP) (by rw[yP];simpa using iv))
       simpa[dR,C] using this
     ·obtain⟨b,arr,rfl,uE,hb,jj,J_,Sx⟩:=k4 (by omega)
      have zp:l.length*s≤arr.size:=by rw[jj];exact abg _ k2
      refine⟨arr.toList.take (l.length*s),by simp;omega,?_,fun k x v hx hv=>?_⟩
      ·have:=adD (P:=P) w t ty e ie z ht.u im ug ⟨b,0,none⟩ l.length cap (arr.toList.take (l.length*s)) (by simp[dE];omega) (fun j v hv=>by
        rw[Addr.aT,abY,aL hb]
        rw[abj] at hv
        split at hv
        ·exact au
        ·cases hv) ⟨b',o',none⟩ l'.length eZ ((List.range (l'.length*s)).map f') (by simp[dE]) px
        (by simpa using lP) (by simp at hlen ⊢;omega) (ac8 (by simpa using lP) (by rw[yP];simpa using iv))
       simpa[dR,C] using this
      ·exact au
    have L1:=hw.kill hH (by simp)
    have IQ:(Builtin.zeroCells z.cells (C-dR)).size=(C-dR)*s:=by simp[Builtin.zeroCells,CE]
    obtain⟨g',w1,w2,w3⟩:=L1.AB (w':=w.drew.alloc (.cells (gf.toArray++((List.range (l'.length*s)).map f').toArray++Builtin.zeroCells z.cells (C-dR)) e)) (id:=res) (l:=l++l') (s:=s) (cap:=C)
     (arr:=gf.toArray++((List.range (l'.length*s)).map f').toArray++Builtin.zeroCells z.cells (C-dR)) (et:=e) (by rw[abR (acN aR)];exact tr) ⟨rfl,rfl,rfl⟩ rfl (by simpa[dR] using hC) J'
     (by
      have hC':C*s=(l.length*s+l'.length*s)+(C-dR)*s:=by
       rw[←hmul,←Nat.add_mul];congr 1;exact(Nat.add_sub_cancel' hC).symm
      simp only[adj,adh,aa4,adG,yR,IQ]
      omega)
     (by
      intro k x v hx hv
      rw[←Array.getElem?_toList] at hv
      refine cont _ (fun k x v hx hv=>?_) (fun k hk=>?_) k x v hx hv
      ·exact au
      ·simp only[adS,abk]
       rw[aaY (by omega),yR,aec,aa1 (by simpa using hk)]
       exact cJ f' _ _ hk)
    exact⟨_,_,g',dz,w1,w2,.hs w3 (fun _=>⟨rfl,by simp[dR],rfl,by simpa[dR] using hC⟩)⟩
theorem wu{α:Type}{f:α→D}{l l' r:List α}{x y:Operand}{t e s bytes id res len:Nat}(ht:pt P t e s bytes)(hx:Is (ρ x) (.hs id 0 len s))(hy:As (ρ y) (.sl (l'.map f)))(hH:H[id]?=some (.bn (l.map f) e s))(hl:l.length=len)(tr:H[res]?=some .free)
  (hf:En f s)(hv:app bytes l l'=some r):bj P (.call ⟨.builtin .append,#[x,y],#[t,t]⟩) ty ρ H (.hs res 0 r.length s) ((H.set id .dead).set res (.bn (r.map f) e s)):=by
 unfold app at hv
 split at hv
 ·rename_i h
  injection hv with hv;subst hv
  have:=E_ (ty:=ty) ht hx hy hH (by simpa using hl) tr (by rw[←List.map_append];exact hf.Ls _) (hf.LP _) (by simp only[aa9,aa4];exact h.1) (by simp only[aa9,aa4];exact h.2)
  exact au
 ·cases hv
theorem yU:∀ {ids:List Nat} {es H:List HE},(∀ (i:Nat) e,es[i]?=some e→∃ id,ids[i]?=some id∧H[id]?=some e)→kj H ids es=H
 |[],es,H,h=>by simp[kj]
 |id::ids,[],H,h=>by simp[kj]
 |id::ids,e::es,H,h=>by
  obtain⟨j,h1,h2⟩:=h 0 e rfl
  simp at h1;subst h1
  have aN:=(aaS.1 h2).1
  have hs:H.set id e=H:=by
   apply ab6
   exact au
  rw[kj,hs]
  exact yU (fun i e' qj=>by
   obtain⟨j,h3,h4⟩:=h (i+1) e' (by simpa using qj)
   exact⟨j,by simpa using h3,h4⟩)
theorem wv{wh:Operand}{f:FuncId}{args:Array Operand}{ts:Array TypeId}{oS vs lK:List V}{H0:List HE}{r0:V}(ids:List Nat)(hc:∀ (a:Array Value) (w:World),(callFunc f a).run P w=.ok (.enter f a) w)
  (hf:Is (ρ wh) (.fn (.func f) lK))(ha:wo ρ args.toList vs)(h:aJ P f oS H0 fun r H'=>r=r0∧H'=H0)(yL:vs++lK=oS.map (V.rn (mQ ids H.length)))(IK:SD H (mQ ids H.length) ids H0)(hd:distinct ids=true)
  (pV:H0.all HE.simple=true)(JW:oS.all V.simple=true)(L9:r0.simple=true)(hv:r0.rn (mQ ids H.length)=r0):
  bj P (.call ⟨.value wh,args,ts⟩) ty ρ H r0 H:=by
 refine bZ hc hf ha ?_
 rw[yL]
 refine(h.frame ids IK.get.1 hd IK.get.2 pV JW (fun r H' ⟨h1,h2⟩=>by subst h1;subst h2;exact⟨L9,pV,by rw[IK.get.1];exact aaZ _⟩)).mono ?_
 rintro r H' ⟨r0',Xv,⟨rfl,rfl⟩,h3,h4⟩
 refine⟨h3.trans hv,h4.trans ?_⟩
 have hl:=IK.get.1
 unfold uO
 rw[hl,acH (aaZ _),aeg (aaZ _),aem,acz]
 refine yU (fun i e he=>?_)
 simp only[aba,aa6] at he
 obtain⟨e0,h5,rfl⟩:=he
 exact IK.get.2 i e0 h5
end
theorem AW.CK{F:FC}{Q:Exit→St→Prop}{c:Code}{E:Nat→V}{H:List HE}{α:Type}{f:α→D}{l:List α}{e:TypeId}{s len n:Nat}(id:Nat)(ts:List Nat)(hH:H[id]?=some (.bn (l.map f) e s))(hn:H.length=n)
  (hE:AF E (.hs id 0 len s) ts)(h:AW F c Q ⟨DI E ts (.hs n 0 len s),H.set id .dead++[.bn (l.map f) e s]⟩):AW F c Q ⟨E,H⟩:=by
 subst hn
 rintro a w ⟨h1,h2,g,h3,h4,h5⟩
 have eC:id<H.length:=(aaS.1 hH).1
 obtain⟨g',w1,w2,w3,_,_,w6⟩:=h3.il.wi (id:=id) (n:=H.length) (by rw[aa1 eC];exact hH) (by simp)
 rw[CH _ _ _ eC] at w1
 refine h a w ⟨h1,h2,g',w1,h4.trans w2,fun i=>wg ((h5 i).mono w2) (fun hr=>?_) hE⟩
 generalize a.tmps.getD i undef=r at hr ⊢
 cases hr with
 |@hs _ _ _ _ m eZ n0 c0 a' Yb p1 p2=>
  exact .hs (w3.trans (w6.symm.trans p1)) p2
section
variable {P:Program}{ρ:Operand→V}{H:List HE}{ty:TypeId}
end
section
variable {P:Program}{ρ:Operand→V}{H:List HE}{ty:TypeId}
theorem Fa{x y:Operand}{t e s bytes res:Nat}{l l':List D}(ht:pt P t e s bytes)(hx:Is (ρ x) (.ex l))(hy:As (ρ y) (.sl l'))(tr:H[res]?=some .free)
  (hs:∀ x∈l++l',x.cells.length=s)(eL:∀ x∈l++l',∀ y∈x.cells,y.one=true)(iv:(l++l').length*bytes≤140737488355328)(hlen:(l++l').length≤4611686018427387904):
  bj P (.call ⟨.builtin .append,#[x,y],#[t,t]⟩) ty ρ H (.tk res (l++l')) (H.set res (.tok (l++l').length e s)):=by
 intro g w r pos after guard dst hw h
 have h1:=hx.rep (h x (by simp[Op.operands,Call.operands]))
 have h2:=hy.rep (h y (by simp[Op.operands,Call.operands]))
 generalize fQ:r x=vx at h1
 have Fb:=tr
 cases h1 with
 |@ex _ a hd=>
  suffices wj:∃ rv w' g',(Builtin.append_ #[t,t] ty #[.slice a l.length l.length,r y]).run P w=.ok rv w'∧aQ g' w' (H.set res (.tok (l++l').length e s))∧cG g w g' w'∧cu g' w' (.tk res (l++l')) rv by
   obtain⟨rv,w',g',e1,e2,e3,e4⟩:=wj
   unfold aO
   have:(execOp r ⟨dst,.call ⟨.builtin .append,#[x,y],#[t,t]⟩,ty,pos,after,guard⟩).run P w=.ok (.value rv) w':=by
    simp[execOp,resolve,invoke,builtin,fQ,e1]
   exact au
  by_cases rS:l'=[]
  ·subst rS
   obtain⟨a',eZ,Hg,_⟩:=kE h2
   rw[Hg]
   obtain⟨g',w1,w2,w3⟩:=hw.zR (n:=(l++[]).length) (s:=s) (e:=e) (a:=a) Fb (by omega)
   refine⟨_,w,g',jw ht (aaZ _),w1,w2,?_⟩
   simp only[acz] at w3 ⊢
   exact .tk (hd.mono w2.pr) w3 (aaZ _) (fun _=>rfl)
  ·have rR:0<l'.length:=abA.2 rS
   refine rm ht hw Fb (.inl rfl) hd (fun ha=>?_) h2 rS hs eL iv hlen (by omega)
   cases hd with
   |sl _ _ _ s' f OP ji k_ gM=>
    by_cases Ho:l=[]
    ·subst Ho;rfl
    ·exact au
theorem oX{x y:Operand}{t:TypeId}{α:Type}{f:α→D}{l l' r:List α}{e s bytes res:Nat}(ht:pt P t e s bytes)(hx:Is (ρ x) (.ex (l.map f)))(hy:As (ρ y) (.sl (l'.map f)))(tr:H[res]?=some .free)
  (hf:En f s)(hv:app bytes l l'=some r):bj P (.call ⟨.builtin .append,#[x,y],#[t,t]⟩) ty ρ H (.tk res (r.map f)) (H.set res (.tok r.length e s)):=by
 unfold app at hv
 split at hv
 ·rename_i h
  injection hv with hv;subst hv
  have:=Fa (ty:=ty) ht hx hy tr (by rw[←List.map_append];exact hf.Ls _) (by rw[←List.map_append];exact hf.LP _) (by simp only[aa9,aa4];exact h.1) (by simp only[aa9,aa4];exact h.2)
  exact au
 ·cases hv
def zq(k:IntKind)(f:BitVec k.bits→BitVec k.bits→BitVec k.bits)(a b:Int):Int:=k.wrap (f (BitVec.ofInt k.bits a) (BitVec.ofInt k.bits b)).toNat
theorem SE{x y:Operand}{t u:TypeId}{k:IntKind}{a b:Int}(hx:As (ρ x) (.int k a))(hy:As (ρ y) (.int k b)):bj P (.binOp .or t x y u) ty ρ H (.d (.int k (zq k (·||| ·) a b))) H:=
 bj.aW fun g w r hw h=>⟨_,fun _ _ _ _=>by simp[execOp,hx.int (h x (by simp[Op.operands])),hy.int (h y (by simp[Op.operands])),eqGuard,binOp,Op.intBits];rfl,.d (.int _ _)⟩
end
end Go.Proofs.YtjdnbobilgamdaaGreatDoor.Ab
end
section
namespace Go.Proofs.YtjdnbobilgamdaaGreatDoor.Ab
open Go
theorem DQ{α:Type}{l r:List α}{lo hi:Int}(h:oR l lo hi=some r):lo.toNat+r.length≤l.length:=by
 unfold oR at h
 exact au
section
variable {P:Program}{ρ:Operand→V}{H:List HE}{ty:TypeId}
theorem tA{α:Type}{f:α→D}{l r:List α}{x:Operand}{t e s bytes id len:Nat}{lo hi:Int}{a b:Option Operand}(hx:Is (ρ x) (.hs id 0 len s))(hH:H[id]?=some (.bn (l.map f) e s))(hl:l.length=len)(ht:pt P t e s bytes)(ha:loM ρ a lo)(hb:X5 ρ len b hi)
  (hv:oR l lo hi=some r):bj P (.slice t x a b none) ty ρ H (.hs id lo.toNat r.length s) H:=by
 unfold oR at hv
 split at hv
 ·rename_i hc
  injection hv with hv
  have SF:r.length=hi.toNat-lo.toNat:=au
  clear hv
  refine bj.aW fun g w rr hw h=>?_
  have h1:=hx.rep (h x (by cases a<;>cases b<;>simp[Op.operands]))
  obtain⟨ad,cap,k1,k2,k3,_⟩:=hw.bn id _ _ _ hH
  rename_i k4;clear k4
  simp only[aa4] at k2
  obtain⟨ie,z,im,dE,_⟩:=ht.i
  generalize hr:rr x=u at h1
  cases h1 with
  |@hs _ _ _ _ m eZ n0 c0 a' a0 p1 p2=>
   rw[k1] at p1;injection p1 with p1;injection p1 with p1 p3
   injection p3 with p3 p4
   obtain⟨r1,r2,r3,r4⟩:=pV (p2 p1.symm)
   subst r1;subst r3;subst p3;subst p4;subst r2
   have Lx:∀ (z:Value) (y:Nat),z=.int .i64 lo→lo.toNat≤y→(Instr.sliceBound z y .sliceB).run P w=.ok lo.toNat w:=fun z y hz hy=>by
    subst hz
    simp only[Instr.sliceBound,asIntOf,abl,abu,aa3]
    rw[aa2 (by omega)];rfl
   have Py:∀ (z:Value) (y:Nat),z=.int .i64 hi→hi.toNat≤y→(Instr.sliceBound z y .sliceAcap).run P w=.ok hi.toNat w:=fun z y hz hy=>by
    subst hz
    simp only[Instr.sliceBound,asIntOf,abl,abu,aa3]
    rw[aa2 (by omega)];rfl
   have AM:hi.toNat≤cap:=by omega
   have zn:(if cap=lo.toNat then ad else ad.map (·.add (lo.toNat*s)))=GZ ad cap lo.toNat s:=by
    unfold GZ
    by_cases h0:lo.toNat=0
    ·rw[h0];simp only[aei,abh]
     split
     ·rfl
     ·cases ad<;>simp[Addr.add]
    ·rw[aa7 h0]
   refine⟨.slice (GZ ad cap lo.toNat s) (hi.toNat-lo.toNat) (cap-lo.toNat),fun _ _ _ _=>?_,?_⟩
   ·cases a with
    |none=>
     have h0:lo=0:=ha
     subst h0
     simp only[Int.toNat_zero,aei] at zn
     cases b with
     |none=>
      have h0:hi=_:=hb
      subst h0
      simp[execOp,Instr.sliceAt,Instr.slice,Instr.sliceBounds,aaX ht.u,hr,aq im,dE,zn]
     |some y=>
      have h2:=As.int hb (h y (by simp[Op.operands]))
      simp[execOp,Instr.sliceAt,Instr.slice,Instr.sliceBounds,aaX ht.u,hr,aq im,dE,Py _ _ h2 AM,zn]
    |some z=>
     have h1:=As.int ha (h z (by cases b<;>simp[Op.operands]))
     cases b with
     |none=>
      have h0:hi=_:=hb
      subst h0
      simp[execOp,Instr.sliceAt,Instr.slice,Instr.sliceBounds,aaX ht.u,hr,aq im,dE,Lx _ _ h1 (show lo.toNat≤n0 by omega),zn]
     |some y=>
      have h2:=As.int hb (h y (by simp[Op.operands]))
      simp[execOp,Instr.sliceAt,Instr.slice,Instr.sliceBounds,aaX ht.u,hr,aq im,dE,Py _ _ h2 AM,Lx _ _ h1 (show lo.toNat≤hi.toNat by omega),zn]
   ·exact .hs k1 (fun _=>⟨rfl,SF.symm,rfl,by omega⟩)
 ·cases hv
end
section
variable {P:Program}{ρ:Operand→V}{H:List HE}{ty:TypeId}
end
end Go.Proofs.YtjdnbobilgamdaaGreatDoor.Ab
end
section
namespace Go.Proofs.YtjdnbobilgamdaaGreatDoor.Ab
open Go
def py(m:List (Nat×V)):Nat→V:=fun i=>yN m i .any
theorem AW.SG{F:FC}{Q:Exit→St→Prop}{α:Type}{x y:Code}{E:Nat→V}{H:List HE}(n0:Nat)(I:α→Prop)(m:α→List (Nat×V))(K:α→List HE)
  (hg:∀ id,n0≤id→F.g0.σ id=none∧F.g0.τ id=none)
  (h1:AW F x (oT (fun s=>∃ z,I z∧nZ n0 E [] (m z) (K z) s) Q) ⟨E,H⟩)(h2:∀ z,I z→AW F y Q ⟨py (m z),K z⟩):AW F (.seq x y) Q ⟨E,H⟩:=
 AW.U8 n0 I [] m K hg h1 h2
theorem AW.IS{F:FC}{Q:Exit→St→Prop}{σ τ:Type}{c:Code}{E:Nat→V}{H:List HE}(n0:Nat)(m:σ→List (Nat×V))(K:σ→List HE){f:σ→Option (σ⊕τ)}{n:Nat}{s0:σ}{t:τ}
  (Ph:iter n f s0=some t)(hg:∀ id,n0≤id→F.g0.σ id=none∧F.g0.τ id=none)(h0:nZ n0 E [] (m s0) (K s0) ⟨E,H⟩)
  (round:∀ n' s,iter (n'+1) f s=some t→AW F c (oT (fun st=>∃ s',iter n' f s'=some t∧nZ n0 (py (m s)) [] (m s') (K s') st) Q) ⟨py (m s),K s⟩):AW F (.loop c) Q ⟨E,H⟩:=
 AW.Rk n0 [] m K Ph hg h0 (fun n' s h=>(round n' s h).mono fun e st hq=>by
  cases e with
  |normal=>
   obtain⟨s',h1,S,k1,k2,k3,k4,k5,k6⟩:=hq
   exact⟨s',h1,S,k1,k2,rfl,k4,trivial,k6⟩
  |_=>exact hq)
theorem AW.reset{F:FC}{Q:Exit→St→Prop}{c:Code}{E:Nat→V}{H:List HE}(n0:Nat)(m:List (Nat×V))(K:List HE)(hg:∀ id,n0≤id→F.g0.σ id=none∧F.g0.τ id=none)(h0:nZ n0 E [] m K ⟨E,H⟩)(k:AW F c Q ⟨py m,K⟩):AW F c Q ⟨E,H⟩:=
 fun a w hs=>k a w (pg hg hs h0)
end Go.Proofs.YtjdnbobilgamdaaGreatDoor.Ab
end
section
namespace Go.Proofs.YtjdnbobilgamdaaGreatDoor.Ab
open Go
section
variable {F:FC}{ρ:Operand→V}{H:List HE}{ty:TypeId}
end
section
variable {P:Program}{ρ:Operand→V}{H:List HE}{ty:TypeId}
end
end Go.Proofs.YtjdnbobilgamdaaGreatDoor.Ab
end
section
namespace Go.Proofs.YtjdnbobilgamdaaGreatDoor.Ab
open Go
section
variable {P:Program}{ρ:Operand→V}{H:List HE}{ty:TypeId}
theorem xH{α:Type}{f:α→D}{l r:List α}{x:Operand}{t e s bytes id len:Nat}{hi:Int}{b:Option Operand}(hx:Is (ρ x) (.hs id 0 len s))(hH:H[id]?=some (.bn (l.map f) e s))(hl:l.length=len)(ht:pt P t e s bytes)(hb:X5 ρ len b hi)
  (hv:oR l 0 hi=some r):bj P (.slice t x none b none) ty ρ H (.hs id 0 r.length s) (H.set id (.bn (r.map f) e s)):=by
 intro g w rr pos after guard dst hw h
 have h0:=tA (ty:=ty) (a:=none) hx hH hl ht rfl hb hv g w rr pos after guard dst hw h
 have eC:id<H.length:=(aaS.1 hH).1
 unfold aO at h0 ⊢
 have hr:r=l.take hi.toNat:=by
  unfold oR at hv
  split at hv
  ·injection hv with hv;rw[←hv];simp
  ·cases hv
 revert h0
 generalize (execOp rr ⟨dst,.slice t x none b none,ty,pos,after,guard⟩).run P w=res
 have key:∀ g' w',aQ g' w' H→aQ g' w' (H.set id (.bn (r.map f) e s))∧cG g' w' g' w':=by
  intro g' w' lN
  obtain⟨ad,cap,k1,k2,k3,k4⟩:=lN.bn id _ _ _ hH
  by_cases hc:cap=0
  ·clear k4
   simp only[aa4] at k2
   have rS:l=[]:=acm (by omega)
   have DR:H.set id (.bn (r.map f) e s)=H:=by
    rw[hr,rS,List.take_nil]
    apply ab6
    intro i
    by_cases hi:i=id
    ·subst hi;rw[acg eC,hH,rS]
    ·rw[abR (acN hi)]
   rw[DR];exact⟨lN,.refl _ _⟩
  ·obtain⟨b,arr,rfl,q0,q2,q3,q4,q5⟩:=k4 (by omega)
   simp only[aa4] at k2
   refine aQ.pw (w':=w') (arr':=arr) lN hH k1 (by omega) q0 ⟨rfl,rfl,rfl⟩ rfl q2 (fun _ _=>rfl) (by rw[hr];simp;omega) q3 (fun k x v kB rf=>q5 k x v ?_ rf)
   have:l.map f=r.map f++(l.drop hi.toNat).map f:=by rw[hr,←List.map_append,acL]
   rw[this,pY,aa1 (aaS.1 kB).1]
   exact kB
 cases res with
 |ok nx w'=>
  cases nx with
  |value v=>rintro⟨g',w1,w2,w3⟩;exact⟨g',(key g' w' w1).1,w2,w3⟩
  |skip=>rintro⟨g',w1,w2,w3⟩;exact⟨g',(key g' w' w1).1,w2,w3⟩
  |enter f args=>intro h;exact h.mono fun e Cy ⟨v,he,g',w1,w2,w3⟩=>⟨v,he,g',(key g' Cy w1).1,w2,w3⟩
  |_=>exact fun h=>h
 |halt x w'=>exact fun h=>h
end
section
variable {P:Program}{ρ:Operand→V}{H:List HE}{ty:TypeId}{x y:Operand}{t u:TypeId}{k:IntKind}{a b c:Int}
end
theorem w1{m:Nat}(h:m+1≤4611686018427387904):IntKind.i64.wrap ((m:Int)+((1:Nat):Int))=((m+1:Nat):Int):=by
 rw[jT (by omega) (by omega)];omega
theorem ws{m i:Nat}(h:m+1≤4611686018427387904)(hi:i≤m):IntKind.i64.wrap (((m+1:Nat):Int)-(i:Int))=((m+1-i:Nat):Int):=by
 rw[jT (by omega) (by omega)];omega
def Pz{α:Type}[DecidableEq α](P:Program)(t:TypeId)(f:α→D):Prop:=
 P.eqGuardType P.depth t=false∧∀ Pr w x y a b,aV Pr w (f x) a→aV Pr w (f y) b→∃ xs ys,a=.agg xs∧b=.agg ys∧∀ w',(Op.equalIn 10000 t (.agg xs) (.agg ys)).run P w'=.ok (decide (x=y)) w'
inductive CL(Pr:Nat→Nat→Prop)(w:World):List D→List Value→Prop
 |nil:CL Pr w [] []
 |cons {x:D} {v:Value} {l:List D} {vs:List Value}:aV Pr w x v→CL Pr w l vs→CL Pr w (x::l) (v::vs)
theorem CL.of{Pr:Nat→Nat→Prop}{w:World}:∀ {l:List D} {vs:List Value},vs.length=l.length→(∀ (i:Nat) x v,l[i]?=some x→vs[i]?=some v→aV Pr w x v)→CL Pr w l vs
 |[],[],_,_=>.nil
 |x::l,v::vs,h,hh=>.cons (hh 0 x v rfl rfl) (CL.of (by simpa using h) (fun i y u h1 h2=>hh (i+1) y u h1 h2))
 |[],_::_,h,_=>by simp at h
 |_::_,[],h,_=>by simp at h
section
variable {P:Program}{ρ:Operand→V}{H:List HE}{ty:TypeId}
theorem wx{α:Type}[DecidableEq α]{f:α→D}{x y:Operand}{t u:TypeId}{a b:α}(hE:Pz P t f)(hx:As (ρ x) (f a))(hy:As (ρ y) (f b)):bj P (.binOp .eql t x y u) ty ρ H (.d (.bool (decide (a=b)))) H:=
 bj.aW fun g w r hw h=>by
  obtain⟨xs,ys,e1,e2,e3⟩:=hE.2 _ _ _ _ _ _ (hx.rep (h x (by simp[Op.operands]))) (hy.rep (h y (by simp[Op.operands])))
  refine⟨.bool (decide (a=b)),fun pos after guard dst=>?_,.d (.bool _)⟩
  simp only[execOp,e1,e2,abl,run_eqGuard_agg _ _ _ _ _ _ _ hE.1,run_eql_struct,e3,aa3,abu]
end
theorem aO.mono{P:Program}{o:Oper}{r:Operand→Value}{w:World}{K K':Value→World→Prop}(h:aO P o r w K)(hk:∀ v w',K v w'→K' v w'):aO P o r w K':=by
 unfold aO at *
 generalize (execOp r o).run P w=q at *
 cases q with
 |ok n w'=>
  cases n with
  |value v=>exact hk _ _ h
  |skip=>exact hk _ _ h
  |enter f args=>exact Calls.mono h (fun e Cy ⟨v,h1,h2⟩=>⟨v,h1,hk _ _ h2⟩)
  |_=>exact h
 |halt _ _=>exact h
section
variable {P:Program}{ρ:Operand→V}{H:List HE}{ty:TypeId}
theorem Hq{α:Type}{l:List α}{k:Int}{v:α}(h:ix l k=some v):0≤k∧l[k.toNat]?=some v∧k.toNat<l.length:=by
 unfold ix at h
 split at h
 ·rename_i h0
  exact⟨h0,h,(aaS.1 h).1⟩
 ·cases h
theorem bj.zP{o:Op}{y:V}{x:D}{H':List HE}(h:bj P o ty ρ H y H')(hx:y.zP=some x):bj P o ty ρ H (.d x) H':=fun g w r pos after guard dst hw hr=>
 aO.mono (h g w r pos after guard dst hw hr) (fun _ _ ⟨g',h1,h2,h3⟩=>⟨g',h1,h2,.d (h3.zP hx)⟩)
theorem xI{α:Type}{l:List α}{v:α}{x y:Operand}{t n e s id off:Nat}{k:IntKind}{a:Int}(hx:Is (ρ x) (.ptr id off))(hy:As (ρ y) (.int k a))(hv:ix l a=some v)(hl:l.length=n)(hu:P.underlying t=some (.array n e))
  (hi:∃ i,P.info? e=some i∧i.size=s):bj P (.indexAddr t x y) ty ρ H (.ptr id (off+a.toNat*s)) H:=by
 obtain⟨h0,_,h1⟩:=Hq hv
 exact dS hx hy (acw h0).symm (by omega) hu hi
end
end Go.Proofs.YtjdnbobilgamdaaGreatDoor.Ab
end
section
namespace Go.Proofs.YtjdnbobilgamdaaGreatDoor.Ab
open Go
section
variable {H:List HE}
theorem aQ.L_{g:G}{w:World}{id:Nat}{x0:OB}{o0:Obj}(hw:aQ g w H)(hH:H[id]?=some .free)
  (Rq:∀ g' w',cG g w g' w'→w'.heap[w.heap.size]?=some o0→x0.φ g' w' id w.heap.size):
  ∃ g',aQ g' {w with heap:=w.heap.push o0 } (H.set id (.ob x0))∧cG g w g' {w with heap:=w.heap.push o0 }∧g'.σ id=some w.heap.size:=by
 have eC:id<H.length:=(aaS.1 hH).1
 obtain⟨G9,DF,J8⟩:=hw.free id (.inl hH)
 let B:=w.heap.size
 let w':World:={w with heap:=w.heap.push o0 }
 let g':G:={σ:=fun i=>if i=id then some B else g.σ i,τ:=g.τ,υ:=g.υ,X:=fun b=>g.X b∨b=B,Pr:=g.Pr }
 have hold:∀ b,b<B→w'.heap[b]?=w.heap[b]?:=fun b hb=>by
  exact au
 have qk:w'.heap[B]?=some o0:=au
 have dE:w'.heap.size=B+1:=au
 have uE:∀ i b,g.σ i=some b→i≠id:=fun i b h e=>by subst e;rw[G9] at h;cases h
 have pN:∀ i,i≠id→g'.σ i=g.σ i:=fun i h=>by simp[g',h]
 have bK:cG g w g' w':={
  same:=⟨rfl,rfl,rfl⟩
  size:=by omega
  pr:=fun b o hp=>⟨hp,by have:=hw.pr b o hp;simp[World.cell?,hold b this]⟩
  pK:=fun b o h=>.inl h
  x:=fun b h=>h.imp (fun h=>h) (fun e=>by omega)
  aY:=fun b hb _=>hold b hb
  σ:=fun i b h=>by rw[pN i (uE i b h)];exact h
  τ:=fun _ m a cap h=>⟨m,a,cap,h,.inr ⟨rfl,rfl,rfl⟩⟩}
 have ax:∀ (i:Nat) e,(H.set id (.ob x0))[i]?=some e→(i=id∧e=.ob x0)∨(i≠id∧H[i]?=some e):=au
 have hblk:∀ (i:Nat) e b',(H.set id (.ob x0))[i]?=some e→g'.aD i e b'→(i=id∧b'=B)∨(i≠id∧H[i]?=some e∧g.aD i e b'∧b'<B):=by
  intro i e b' he dD
  rcases ax i e he with ⟨rfl,rfl⟩|⟨aR,h⟩
  ·rcases dD with dD|dD
   ·exact au
   ·exact au
  ·have:g.aD i e b':=by
    cases e<;>simp[G.aD,g',aR] at dD ⊢<;>exact dD
   exact .inr ⟨aR,h,this,hw.xs b' (hw.aD i e b' h this)⟩
 refine⟨g',⟨fun b o h=>by have:=hw.pr b o h;show b<w'.heap.size;omega,?_,?_,?_,?_,?_,?_,?_,?_,hw.Ca bK⟩,bK,by simp[g',B]⟩
 ·intro b h
  show b<w'.heap.size
  rcases h with h|rfl
  ·have:=hw.xs b h;omega
  ·omega
 ·intro i e b' he dD
  rcases hblk i e b' he dD with ⟨_,rfl⟩|⟨_,h1,h2,_⟩
  ·exact .inr rfl
  ·exact .inl (hw.aD i e b' h1 h2)
 ·intro i i' e e' b' he qj yO xE
  rcases hblk i e b' he yO with ⟨r1,r2⟩|⟨_,h1,h2,h3⟩<;>rcases hblk i' e' b' qj xE with ⟨s1,s2⟩|⟨_,h4,h5,h6⟩
  ·omega
  ·omega
  ·omega
  ·exact hw.sep i i' e e' b' h1 h4 h2 h5
 ·intro i ci hi
  rcases ax i _ hi with ⟨_,he⟩|⟨aR,h⟩
  ·cases he
  ·obtain⟨b1,dx,sj,g1,g2,g3,g4,g5⟩:=hw.row i ci h
   have aN:=hw.xs b1 (hw.aD i _ b1 h (by simpa[G.aD] using g1))
   exact⟨b1,dx,sj,by rw[pN i aR];exact g1,(hold b1 aN).trans g2,g3,fun k x v hx hv=>(g4 k x v hx hv).mono bK,g5⟩
 ·intro i n e s hi
  rcases ax i _ hi with ⟨_,he⟩|⟨aR,h⟩
  ·cases he
  ·obtain⟨a,cap,g1,g2,g3,g4⟩:=hw.tok i n e s h
   exact au
 ·intro i l e s hi
  rcases ax i _ hi with ⟨_,he⟩|⟨aR,h⟩
  ·cases he
  ·obtain⟨a,cap,g1,g2,g3,g4⟩:=hw.bn i l e s h
   refine⟨a,cap,g1,g2,g3,fun aN=>?_⟩
   obtain⟨b1,dx,k1,k0,k2,k3,k4,k5⟩:=g4 aN
   have DG:=hw.xs b1 (hw.aD i _ b1 h (by simp[G.aD,g1,aN,k1]))
   exact⟨b1,dx,k1,by rw[pN i aR];exact k0,(hold b1 DG).trans k2,k3,k4,fun k x v hx hv=>(k5 k x v hx hv).mono bK.pr⟩
 ·intro i x hi
  rcases ax i _ hi with ⟨rfl,he⟩|⟨aR,h⟩
  ·injection he with he;subst he
   exact⟨B,by simp[g'],Rq g' w' bK qk,fun o hp=>by have:=hw.pr B o hp;omega,fun b' o hu=>absurd hu (J8 _)⟩
  ·obtain⟨b1,q1,q2,q3,q4⟩:=hw.ob i x h
   have aN:=hw.xs b1 (hw.aD i _ b1 h (.inl q1))
   exact⟨b1,by rw[pN i aR];exact q1,x.st bK.w rfl rfl (hold b1 aN) (fun b' hu=>hold b' (hw.xs b' (hw.aD i _ b' h (.inr hu)))) q2,q3,q4⟩
 ·intro i hi
  have aR:i≠id:=au
  rw[pN i aR]
  refine hw.free i ?_
  exact au
theorem aQ.AN{g:G}{w w':World}{id b:Nat}{x0 x1:OB}(hw:aQ g w H)(hH:H[id]?=some (.ob x0))(hb:g.σ id=some b)
  (n4:w'.os=w.os∧w'.tape=w.tape∧w'.output=w.output)(dE:w'.heap.size=w.heap.size)(ho:∀ b',b'≠b→w'.heap[b']?=w.heap[b']?)
  (Rq:cG g w g w'→x1.φ g w' id b):aQ g w' (H.set id (.ob x1))∧cG g w g w':=by
 have eC:id<H.length:=(aaS.1 hH).1
 have hX:g.X b:=hw.aD id _ b hH (.inl hb)
 obtain⟨b0,f1,f2,J_,hPu⟩:=hw.ob id x0 hH
 obtain rfl:b=b0:=by rw[hb] at f1;exact aa5 f1
 have bK:cG g w g w':={
  same:=n4
  size:=by omega
  pr:=fun b' o hp=>⟨hp,by
   have aR:b'≠b:=fun e=>by subst e;exact J_ o hp
   simp[World.cell?,ho b' aR]⟩
  pK:=fun b o h=>.inl h
  x:=fun b h=>.inl h
  aY:=fun b' _ hx=>ho b' (fun e=>by subst e;exact hx hX)
  σ:=fun _ _ h=>h
  τ:=fun _ m a cap h=>⟨m,a,cap,h,.inr ⟨rfl,rfl,rfl⟩⟩}
 have ax:∀ (i:Nat) e,(H.set id (.ob x1))[i]?=some e→(i=id∧e=.ob x1)∨(i≠id∧H[i]?=some e):=au
 have hblk:∀ (i:Nat) e b',(H.set id (.ob x1))[i]?=some e→g.aD i e b'→∃ e',H[i]?=some e'∧g.aD i e' b':=by
  intro i e b' he dD
  rcases ax i e he with ⟨rfl,rfl⟩|⟨_,h⟩
  ·exact⟨_,hH,dD⟩
  ·exact au
 refine⟨⟨fun b o h=>by rw[dE];exact hw.pr b o h,fun b h=>by rw[dE];exact hw.xs b h,?_,?_,?_,?_,?_,?_,?_,hw.Ca bK⟩,bK⟩
 ·intro i e b' he dD
  obtain⟨e',h1,h2⟩:=hblk i e b' he dD
  exact hw.aD i e' b' h1 h2
 ·intro i i' e e' b' he qj yO xE
  obtain⟨e1,h1,h2⟩:=hblk i e b' he yO
  obtain⟨e3,h3,h4⟩:=hblk i' e' b' qj xE
  exact hw.sep i i' e1 e3 b' h1 h3 h2 h4
 ·intro i ci hi
  rcases ax i _ hi with ⟨_,he⟩|⟨aR,h⟩
  ·cases he
  ·obtain⟨b1,dx,sj,g1,g2,g3,g4,g5⟩:=hw.row i ci h
   have mN:b1≠b:=fun e=>aR (hw.sep i id _ _ b1 h hH (by simpa[G.aD] using g1) (by rw[e];exact .inl hb))
   exact⟨b1,dx,sj,g1,(ho b1 mN).trans g2,g3,fun k x v hx hv=>(g4 k x v hx hv).mono bK,g5⟩
 ·intro i n e s hi
  rcases ax i _ hi with ⟨_,he⟩|⟨aR,h⟩
  ·cases he
  ·obtain⟨a,cap,g1,g2,g3,g4⟩:=hw.tok i n e s h
   refine⟨a,cap,g1,g2,g3,fun aN=>?_⟩
   obtain⟨b1,dx,k1,k2,k3,k4⟩:=g4 aN
   have mN:b1≠b:=fun e'=>aR (hw.sep i id _ _ b1 h hH (by simp[G.aD,g1,aN,k1]) (by rw[e'];exact .inl hb))
   exact au
 ·intro i l e s hi
  rcases ax i _ hi with ⟨_,he⟩|⟨aR,h⟩
  ·cases he
  ·obtain⟨a,cap,g1,g2,g3,g4⟩:=hw.bn i l e s h
   refine⟨a,cap,g1,g2,g3,fun aN=>?_⟩
   obtain⟨b1,dx,k1,k0,k2,k3,k4,k5⟩:=g4 aN
   have mN:b1≠b:=fun e'=>aR (hw.sep i id _ _ b1 h hH (by simp[G.aD,g1,aN,k1]) (by rw[e'];exact .inl hb))
   exact⟨b1,dx,k1,k0,(ho b1 mN).trans k2,k3,k4,fun k x v hx hv=>(k5 k x v hx hv).mono bK.pr⟩
 ·intro i x hi
  rcases ax i _ hi with ⟨rfl,he⟩|⟨aR,h⟩
  ·exact au
  ·obtain⟨b1,q1,q2,q3,q4⟩:=hw.ob i x h
   have mN:b1≠b:=fun e=>aR (hw.sep i id _ _ b1 h hH (.inl q1) (by rw[e];exact .inl hb))
   have Sp:∀ b',g.υ i b'→b'≠b:=fun b' hu e=>aR (hw.sep i id _ _ b' h hH (.inr hu) (by rw[e];exact .inl hb))
   exact⟨b1,q1,x.st bK.w rfl rfl (ho b1 mN) (fun b' hu=>ho b' (Sp b' hu)) q2,q3,q4⟩
 ·intro i hi
  refine hw.free i ?_
  exact au
end
def e_{κ ν:Type}[DecidableEq κ]:List (κ×ν)→κ→Option Nat
 |[],_=>none
 |x::m,k=>if k=x.1 then some 0 else (e_ m k).map (·+1)
def ft{κ ν:Type}[DecidableEq κ](m:List (κ×ν))(k:κ):Option ν:=(e_ m k).bind fun j=>(m[j]?).map (·.2)
def jl{κ ν:Type}[DecidableEq κ](m:List (κ×ν))(k:κ)(v:ν):List (κ×ν):=match e_ m k with
 |some j=>m.set j (k,v)
 |none=>m++[(k,v)]
theorem mR{κ ν:Type}[DecidableEq κ]{k:κ}:∀ {m:List (κ×ν)} {j:Nat},e_ m k=some j→∃ x,m[j]?=some x∧x.1=k
 |x::m,j,h=>by
  unfold e_ at h
  split at h
  ·exact au
  ·cases hm:e_ m k with
   |none=>rw[hm] at h;cases h
   |some i=>
    rw[hm] at h
    simp only[abN,aaW] at h
    subst h
    obtain⟨y,h1,h2⟩:=mR hm
    exact⟨y,by simpa using h1,h2⟩
structure Fc(P:Program)(kt:TypeId){κ:Type}[DecidableEq κ](fk:κ→D)(kv:κ→Value)(d:TypeDesc):Prop where
 ty:P.underlying kt=some d
 UD:∀ x,MapKept.IsKey d (kv x)
 rep:∀ {Pr:Nat→Nat→Prop} {w:World} {x:κ} {v:Value},aV Pr w (fk x) v→v=kv x
 Xy:∀ {Pr:Nat→Nat→Prop} {w:World} {x:κ},aV Pr w (fk x) (kv x)
 same:∀ x y,Instr.sameNow d (kv x) (kv y)=some (decide (x=y))
theorem DS{P:Program}{kt:TypeId}(h:P.underlying kt=some .string):Fc P kt D.str (fun s=>.string ⟨s.toArray⟩) .string where
 ty:=h
 UD:=fun _=>trivial
 rep:=fun h=>by cases h;rfl
 Xy:=.str _
 same:=fun x y=>by
  have e:((⟨x.toArray⟩:ByteArray)==⟨y.toArray⟩)=decide (x=y):=by
   rw[abG,MapKept.bytes_beq,decide_eq_true_iff]
   exact au
  simp only[Instr.sameNow,e]
theorem DT{P:Program}{kt:TypeId}{k:IntKind}(h:P.underlying kt=some (.int k)):Fc P kt (D.int k) (fun n=>.int k n) (.int k) where
 ty:=h
 UD:=fun _=>rfl
 rep:=fun h=>by cases h;rfl
 Xy:=.int _ _
 same:=fun x y=>by
  simp only[Instr.sameNow,aa2]
  congr 1
def Vf(Pr:Nat→Nat→Prop)(w:World)(b:Nat)(M:List (D×D)):Prop:=
 ∃ es:Array MapEntry,w.heap[b]?=some (.map es M.length)∧es.size=M.length∧∀ (i:Nat) x e,M[i]?=some x→es[i]?=some e→e.born=i∧aV Pr w x.1 e.key∧aV Pr w x.2 e.val
def oY(M:List (D×D)):OB where
 φ:=fun g w _ b=>Vf g.Pr w b M
 st:=fun{g g' w w' _ b} he _ _ hb _ h=>by
  obtain⟨es,h1,h2,h3⟩:=h
  exact⟨es,hb.trans h1,h2,fun i x e hx hv=>by
   obtain⟨k1,k2,k3⟩:=h3 i x e hx hv
   exact⟨k1,k2.mono he.pr,k3.mono he.pr⟩⟩
 fr:=true
 JV:=fun _ {g g' w i j b} hP _ _ h=>by rw[hP];exact h
theorem jm{S:List Nat}{M:List (D×D)}:LW S (oY M) (oY M):=fun _ h=>h
section
variable {P:Program}{ρ:Operand→V}{H:List HE}{ty:TypeId}{κ ν:Type}[DecidableEq κ]{fk:κ→D}{fv:ν→D}{kv:κ→Value}{d:TypeDesc}
theorem Is.mp{x:Operand}{id:Nat}{g:G}{w:World}{r:Operand→Value}(hx:Is (ρ x) (.mp id))(h:cu g w (ρ x) (r x)):∃ b,g.σ id=some b∧r x=.map (some b):=by
 have:=hx.rep h
 generalize hr:r x=v at this
 cases this with
 |mp hb=>exact⟨_,hb,rfl⟩
theorem Fe{Pr:Nat→Nat→Prop}{w:World}{kt:TypeId}(hK:Fc P kt fk kv d)(k:κ):∀ (m:List (κ×ν)) (es:List MapEntry) (i:Nat),es.length=m.length→
  (∀ (j:Nat) x e,m[j]?=some x→es[j]?=some e→aV Pr w (fk x.1) e.key)→
  Instr.findNow d (kv k) es i=some (match e_ m k with|some j=>(es[j]?).map fun e=>(i+j,e.val)|none=>none)
 |[],[],i,_,_=>rfl
 |x::m,e::es,i,hl,h=>by
  have hk:=hK.rep (h 0 x e rfl rfl)
  unfold Instr.findNow e_
  rw[hk,hK.same]
  by_cases he:k=x.1
  ·simp[he]
  ·rw[abF he,aa7 he]
   have:=Fe hK k m es (i+1) (by simpa using hl) (fun j y e' h1 h2=>h (j+1) y e' (by simpa using h1) (by simpa using h2))
   exact au
theorem AP{w:World}{kt:TypeId}{es:Array MapEntry}{Pr:Nat→Nat→Prop}{m:List (κ×ν)}(hK:Fc P kt fk kv d)(k:κ)(h2:es.size=m.length)
  (h3:∀ (i:Nat) x e,(m.map fun q=>(fk q.1,fv q.2))[i]?=some x→es[i]?=some e→e.born=i∧aV Pr w x.1 e.key∧aV Pr w x.2 e.val):
  (Instr.findKey kt (kv k) es.toList).run P w=.ok (match e_ m k with|some j=>(es[j]?).map fun e=>(j,e.val)|none=>none) w:=by
 refine MapKept.run_findKey hK.ty ?_
 rw[Fe (Pr:=Pr) (w:=w) hK k m es.toList 0 (by simpa using h2) (fun j x e h1 h4=>(h3 j (fk x.1,fv x.2) e (by rw[aba,h1];rfl) (by simpa using h4)).2.1)]
 cases e_ m k with
 |none=>rfl
 |some j=>simp
theorem uT{t:TypeId}{n:Nat}(hn:H.length=n):bj P (.makeMap t none) ty ρ H (.mp n) (H++[.ob (oY [])]):=by
 subst hn
 intro g w r pos after guard dst hw _
 obtain⟨g',h1,h2,h3⟩:=hw.il.L_ (id:=H.length) (x0:=oY []) (o0:=.map #[] 0) (by simp) (fun g' w' _ h=>⟨#[],h,rfl,fun i x e hx=>by simp at hx⟩)
 rw[mO] at h1
 unfold aO
 simp[execOp,Instr.makeMap]
 exact⟨g',h1,h2,.mp h3⟩
theorem xJ{x y:Operand}{t kt et:TypeId}{id:Nat}{m:List (κ×ν)}{k:κ}{z:ν}{zv:Value}(hK:Fc P kt fk kv d)(ht:P.underlying t=some (.map kt et))(hx:Is (ρ x) (.mp id))(hy:As (ρ y) (fk k))
  (hH:H[id]?=some (.ob (oY (m.map fun q=>(fk q.1,fv q.2)))))(hz:∃ i,P.info? et=some i∧i.zero=some zv)(Rr:∀ Pr w,aV Pr w (fv z) zv):
  bj P (.lookup t x y false) ty ρ H (.d (fv ((ft m k).getD z))) H:=
 bj.aW fun g w r hw h=>by
  obtain⟨b,hb,hr⟩:=hx.mp (h x (by simp[Op.operands]))
  have hk:=hK.rep (hy.rep (h y (by simp[Op.operands])))
  obtain⟨b',f1,⟨es,e1,e2,e3⟩,f3,_⟩:=hw.ob id _ hH
  obtain rfl:b=b':=by rw[hb] at f1;exact aa5 f1
  obtain⟨inf,z1,z2⟩:=hz
  have hf:=AP (P:=P) (Pr:=g.Pr) (w:=w) (fv:=fv) hK k (by simpa using e2) e3
  simp only[aa4] at e1 e2
  have hc:∀ em,(Instr.checkKey em 10000 kt (kv k)).run P w=.ok () w:=fun em=>MapKept.run_checkKey hK.ty (hK.UD k) em 9999
  unfold ft
  cases hm:e_ m k with
  |none=>
   rw[hm] at hf
   refine⟨zv,fun _ _ _ _=>?_,.d (Rr _ _)⟩
   simp[execOp,hr,hk,Instr.lookup,aaX ht,acj e1,hc,hf,Result.andThen,zeroValue,typeInfo,z1,z2]
  |some j=>
   rw[hm] at hf
   obtain⟨q,q1,q2⟩:=mR hm
   have hj:j<es.size:=au
   have he:es[j]?=some es[j]:=by simp[hj]
   refine⟨es[j].val,fun _ _ _ _=>?_,?_⟩
   ·simp only[he,abN] at hf
    simp[execOp,hr,hk,Instr.lookup,aaX ht,acj e1,hc,hf,Result.andThen]
   ·simp only[aaQ,q1,abN,aci]
    exact .d (e3 j _ _ (by simp[q1];rfl) he).2.2
theorem Ff{x y:Operand}{t kt et:TypeId}{id:Nat}{m:List (κ×ν)}{k:κ}{z:ν}{zv:Value}(hK:Fc P kt fk kv d)(ht:P.underlying t=some (.map kt et))(hx:Is (ρ x) (.mp id))(hy:As (ρ y) (fk k))
  (hH:H[id]?=some (.ob (oY (m.map fun q=>(fk q.1,fv q.2)))))(hz:∃ i,P.info? et=some i∧i.zero=some zv)(Rr:∀ Pr w,aV Pr w (fv z) zv):
  bj P (.lookup t x y true) ty ρ H (.gd [.d (fv ((ft m k).getD z)),.d (.bool (ft m k).isSome)]) H:=
 bj.aW fun g w r hw h=>by
  obtain⟨b,hb,hr⟩:=hx.mp (h x (by simp[Op.operands]))
  have hk:=hK.rep (hy.rep (h y (by simp[Op.operands])))
  obtain⟨b',f1,⟨es,e1,e2,e3⟩,f3,_⟩:=hw.ob id _ hH
  obtain rfl:b=b':=by rw[hb] at f1;exact aa5 f1
  obtain⟨inf,z1,z2⟩:=hz
  have hf:=AP (P:=P) (Pr:=g.Pr) (w:=w) (fv:=fv) hK k (by simpa using e2) e3
  simp only[aa4] at e1 e2
  have hc:∀ em,(Instr.checkKey em 10000 kt (kv k)).run P w=.ok () w:=fun em=>MapKept.run_checkKey hK.ty (hK.UD k) em 9999
  have two:∀ {a b:V} {u v:Value},cu g w a u→cu g w b v→cu g w (.gd [a,b]) (.tuple #[u,v]):=fun ha hb=>.gd rfl (fun i x v hx hv=>by
   match i,hx,hv with
   |0,hx,hv=>simp at hx hv;subst hx;subst hv;exact ha
   |1,hx,hv=>simp at hx hv;subst hx;subst hv;exact hb
   |i+2,hx,_=>simp at hx)
  unfold ft
  cases hm:e_ m k with
  |none=>
   rw[hm] at hf
   refine⟨.tuple #[zv,.bool false],fun _ _ _ _=>?_,two (.d (Rr _ _)) (.d (.bool _))⟩
   simp[execOp,hr,hk,Instr.lookup,aaX ht,acj e1,hc,hf,Result.andThen,zeroValue,typeInfo,z1,z2]
  |some j=>
   rw[hm] at hf
   obtain⟨q,q1,q2⟩:=mR hm
   have hj:j<es.size:=au
   have he:es[j]?=some es[j]:=by simp[hj]
   refine⟨.tuple #[es[j].val,.bool true],fun _ _ _ _=>?_,two ?_ ?_⟩
   ·simp only[he,abN] at hf
    simp[execOp,hr,hk,Instr.lookup,aaX ht,acj e1,hc,hf,Result.andThen]
   ·simp only[aaQ,q1,abN,aci]
    exact .d (e3 j _ _ (by simp[q1];rfl) he).2.2
   ·simp only[aaQ,q1,abN,Option.isSome_some]
    exact .d (.bool _)
theorem Kd{x:Operand}{t kt et:TypeId}{id:Nat}{M:List (D×D)}(ht:P.underlying t=some (.map kt et))(hx:Is (ρ x) (.mp id))(hH:H[id]?=some (.ob (oY M))):
  bj P (.call ⟨.builtin .len,#[x],#[t]⟩) ty ρ H (.d (.int .i64 (M.length:Int))) H:=
 bj.aW fun g w r hw h=>by
  obtain⟨b,hb,hr⟩:=hx.mp (h x (by simp[Op.operands,Call.operands]))
  obtain⟨b',f1,⟨es,e1,e2,e3⟩,f3,_⟩:=hw.ob id _ hH
  obtain rfl:b=b':=by rw[hb] at f1;exact aa5 f1
  refine⟨.int .i64 (M.length:Int),fun _ _ _ _=>?_,.d (.int _ _)⟩
  simp[execOp,resolve,invoke,builtin,hr,Builtin.len_,aaX ht,acj e1,goInt,Result.andThen,e2]
theorem DU{x y u:Operand}{t kt et:TypeId}{id:Nat}{m:List (κ×ν)}{k:κ}{v:ν}(hK:Fc P kt fk kv d)(ht:P.underlying t=some (.map kt et))(hx:Is (ρ x) (.mp id))(hy:As (ρ y) (fk k))(hu:As (ρ u) (fv v))
  (hH:H[id]?=some (.ob (oY (m.map fun q=>(fk q.1,fv q.2))))):
  bj P (.mapUpdate t x y u) ty ρ H .any (H.set id (.ob (oY ((jl m k v).map fun q=>(fk q.1,fv q.2))))):=by
 intro g w r pos after guard dst hw h
 obtain⟨b,hb,hr⟩:=hx.mp (h x (by simp[Op.operands]))
 have hk:=hK.rep (hy.rep (h y (by simp[Op.operands])))
 have hv:=hu.rep (h u (by simp[Op.operands]))
 obtain⟨b',f1,⟨es,e1,e2,e3⟩,f3,_⟩:=hw.ob id _ hH
 obtain rfl:b=b':=by rw[hb] at f1;exact aa5 f1
 have hf:=AP (P:=P) (Pr:=g.Pr) (w:=w) (fv:=fv) hK k (by simpa using e2) e3
 simp only[aa4] at e1 e2
 have hc:(Instr.checkKey false 10000 kt (kv k)).run P w=.ok () w:=MapKept.run_checkKey hK.ty (hK.UD k) false 9999
 have Fg:(Instr.keyThatStays (kv k) (kv k)).run P w=.ok (kv k) w:=MapKept.run_keyThatStays (hK.UD k)
 have Ly:b<w.heap.size:=(abd.1 e1).1
 have fin:∀ o',(oY ((jl m k v).map fun q=>(fk q.1,fv q.2))).φ g {w with heap:=w.heap.setIfInBounds b o' } id b→
   ∃ g',aQ g' {w with heap:=w.heap.setIfInBounds b o' } (H.set id (.ob (oY ((jl m k v).map fun q=>(fk q.1,fv q.2)))))∧cG g w g' {w with heap:=w.heap.setIfInBounds b o' }∧cu g' {w with heap:=w.heap.setIfInBounds b o' } .any undef:=fun o' Rq=>by
  obtain⟨k1,k2⟩:=hw.AN (w':={w with heap:=w.heap.setIfInBounds b o' }) hH hb ⟨rfl,rfl,rfl⟩ (by simp) (fun b' aR=>by
   show(w.heap.setIfInBounds b o')[b']?=_
   rw[abD (acN aR)]) (fun _=>Rq)
  exact⟨g,k1,k2,.any⟩
 have bK:∀ o',∀ b' o,g.Pr b' o→g.Pr b' o∧World.cell? {w with heap:=w.heap.setIfInBounds b o' } ⟨b',o,none⟩=w.cell? ⟨b',o,none⟩:=fun o' b' o hp=>⟨hp,by
  have aR:b'≠b:=fun e=>by subst e;exact f3 o hp
  simp[World.cell?,abD (acN aR)]⟩
 unfold aO
 cases hm:e_ m k with
 |none=>
  rw[hm] at hf
  simp[execOp,hr,hk,Instr.mapUpdate,aaX ht,acj e1,hc,hf,Result.andThen,MapKept.run_setObj_map _ e1]
  refine fin _ ⟨es.push ⟨kv k,r u,m.length⟩,?_,?_,?_⟩
  ·simp[jl,hm,Ly]
  ·simp[jl,hm,e2]
  ·intro i x e hx he
   simp only[jl,hm,abW,abP,aem] at hx
   by_cases hi:i<m.length
   ·rw[aa1 (by simpa using hi)] at hx
    rw[acF,aa7 (by omega)] at he
    obtain⟨q1,q2,q3⟩:=e3 i x e hx he
    exact⟨q1,q2.mono (bK _),q3.mono (bK _)⟩
   ·rw[aaY (by simpa using hi)] at hx
    have G6:i-m.length=0:=au
    have:i=m.length:=by omega
    subst this
    simp only[aa4,Nat.sub_self,aa',aaW] at hx
    subst hx
    rw[acF,aa2 e2.symm] at he
    injection he with he;subst he
    exact⟨rfl,hK.Xy,hv.mono (bK _)⟩
 |some j=>
  rw[hm] at hf
  obtain⟨q,q1,q2⟩:=mR hm
  have hj:j<es.size:=au
  have Vg:es[j]?=some es[j]:=by simp[hj]
  have Yi:es[j].key=kv k:=by
   have:=hK.rep (e3 j _ _ (by simp[q1];rfl) Vg).2.1
   rw[this,q2]
  simp only[Vg,abN] at hf
  simp[execOp,hr,hk,Instr.mapUpdate,aaX ht,acj e1,hc,hf,Result.andThen,MapKept.run_setObj_map _ e1,Vg,Yi,Fg]
  refine fin _ ⟨es.modify j fun e=>{e with key:=kv k,val:=r u },?_,?_,?_⟩
  ·simp[jl,hm,Ly]
  ·simp[jl,hm,e2]
  ·intro i x e hx he
   simp only[jl,hm,List.map_set] at hx
   rw[adJ] at he
   by_cases AJ:j=i
   ·subst AJ
    rw[aa2 rfl,Vg] at he
    rw[acg (by simpa[e2] using hj)] at hx
    injection hx with hx;subst hx
    simp only[abN,aaW] at he
    subst he
    exact⟨(e3 j _ _ (by simp[q1];rfl) Vg).1,hK.Xy,hv.mono (bK _)⟩
   ·rw[aa7 AJ] at he
    rw[abR AJ] at hx
    obtain⟨q1,q2,q3⟩:=e3 i x e hx he
    exact⟨q1,q2.mono (bK _),q3.mono (bK _)⟩
end
end Go.Proofs.YtjdnbobilgamdaaGreatDoor.Ab
end
