/- strings.Join as a function of data. Sorting rows whose cells may be lists, told apart by the comparison. What the library says of its sort, at this program. Short names for the rules of the walk, their side conditions found by themselves. Conditions: none. -/
import Derived.Test.YtjdnbobilgamdaaGreatDoorJm
import Derived.Test.YtjdnbobilgamdaaGreatDoorSh
import Derived.Test.YtjdnbobilgamdaaGreatDoorAb50
import Derived.Test.YtjdnbobilgamdaaGreatDoorOk
import Derived.Test.YtjdnbobilgamdaaGreatDoorMi
section
namespace Go.Proofs.YtjdnbobilgamdaaGreatDoor.Ab
open Go Go.RowKit
theorem TW{Pr:Nat→Nat→Prop}{w:World}{xs:List (List UInt8)}{r:Value}(h:aV Pr w (.sl (xs.map D.str)) r):∃ a c,r=.slice a xs.length c∧xs.length≤c∧(xs≠[]→∃ b o,a=some ⟨b,o,none⟩∧Pr b o∧∀ (j:Nat) x,xs[j]?=some x→w.cell? ⟨b,o+j,none⟩=some (.string ⟨x.toArray⟩)):=by
 obtain⟨a,c,rfl,hc⟩:=kE h
 simp only[aa4] at hc
 refine⟨a,c,by simp,hc,fun aR=>?_⟩
 have mN:xs.map D.str≠[]:=by simpa using aR
 cases h with
 |sl _ _ _ s f q1 q2 q3 q4=>
  obtain⟨b,o,rfl,h5⟩:=q3 mN
  have hs:s=1:=by
   obtain⟨x,xs',rfl⟩:=List.exists_cons_of_ne_nil aR
   have:=q1 (.str x) (by simp)
   simpa[D.cells] using this.symm
  subst hs
  have LN:D.flat (xs.map D.str)=xs.map D.str:=jU (fun _=>rfl) xs
  refine⟨b,o,rfl,by have:=(h5 0 (by simpa using abA.2 aR)).1;simpa using this,fun j x hx=>?_⟩
  have hj:j<xs.length:=(aaS.1 hx).1
  rw[(h5 j (by simpa using hj)).2]
  have:=q4 j (.str x) (by rw[LN];simp[hx])
  generalize f j=u at this ⊢
  cases this with
  |str=>rfl
theorem Gz{xs:List (List UInt8)}{sep r:List UInt8}(hm:CY xs sep=some r):Fn Tryz.prog 34 [.sl (xs.map D.str),.str sep] (.str r):=by
 unfold CY at hm
 split at hm
 ·rename_i hh
  injection hm with hm;subst hm
  refine Fn.Mf (fun g w vals hw hs ha=>?_)
  obtain⟨v0,v1,rfl⟩:∃ v0 v1,vals=#[v0,v1]:=by
   obtain⟨vs⟩:=vals
   match vs,hs with
   |[a,b],_=>exact⟨a,b,rfl⟩
  have h0:=ha 0 _ v0 rfl rfl
  have h1:=ha 1 _ v1 rfl rfl
  have Vq:v1=.string ⟨sep.toArray⟩:=by cases h1;rfl
  subst Vq
  obtain⟨a,c,rfl,hc,kD⟩:=TW h0
  have Kr:(xs.map fun l:List UInt8=>(⟨l.toArray⟩:ByteArray)).map (fun b=>b.data.toList)=xs:=by
   rw[acB]
   exact(acX (fun l _=>by simp)).trans (List.map_id xs)
  by_cases aR:xs=[]
  ·subst aR
   refine(Tryz.strings_Join_none a c ⟨sep.toArray⟩ w).mono ?_
   rintro e w' ⟨rfl,rfl⟩
   exact⟨_,rfl,Below.refl _ _,by simpa[Lib.join] using aV.str (Pr:=g.Pr) (w:=w') []⟩
  ·obtain⟨b,o,rfl,hp,hx⟩:=kD aR
   have key:=Tryz.strings_Join b o c (xs.map fun l=>⟨l.toArray⟩) ⟨sep.toArray⟩ w (fun j x hjx=>by
    simp only[aba,aa6] at hjx
    obtain⟨l,hl,rfl⟩:=hjx
    exact hx j l hl) (hw.pr b o hp) (by simpa using hh.1) (by simpa using hc) (by rw[Kr];exact hh.2)
   rw[aa4,Kr] at key
   refine key.mono ?_
   rintro e w' ⟨rfl,hb⟩
   exact⟨_,rfl,hb,.str _⟩
 ·cases hm
end Go.Proofs.YtjdnbobilgamdaaGreatDoor.Ab
end
section
namespace Go.Proofs.YtjdnbobilgamdaaGreatDoor.Ab
open Go Go.Sort
def D.slot:D→Bool
 |.bool _|.int _ _|.str _|.sl _=>true
 |_=>false
structure YH(P:Program)(fs c:FuncId)(s:Nat):Prop where
 nil:∀ p cap w,Calls P fs #[.slice p 0 cap,.func (.func c) #[] #[]] w fun e w'=>e=.returned (.tuple #[])∧w'=w
 row:∀ {n:Nat} [Inhabited (Fin n)] (enc:Fin n→List Value) (cf:Fin n→Fin n→Int),(∀ x,(enc x).length=s)→(∀ x,∀ v∈enc x,v.oneCell'=true)→SWO (ltOf cf)→(∀ x y,ltOf cf x y=false→ltOf cf y x=false→x=y)→
  ∀ b cap (d:Array (Fin n)) w,CmpLays P c #[] enc s cf b 0 d.size w→HoldsK enc s w b 0 d→b<w.heap.size→d.size<4611686018427387904→
  Calls P fs #[.slice (some ⟨b,0,none⟩) d.size cap,.func (.func c) #[] #[]] w fun e w'=>e=.returned (.tuple #[])∧∃ n os,w'=sortWorldK enc s w b 0 n (d.toList.mergeSort fun x y=>!(ltOf cf) y x).toArray os
section
variable {α:Type}{f:α→D}{s:Nat}
end
end Go.Proofs.YtjdnbobilgamdaaGreatDoor.Ab
end
section
namespace Go.Proofs.YtjdnbobilgamdaaGreatDoor.Ab
open Go Go.Sort Go.Shelf
set_option maxRecDepth 100000
theorem TN:HH Tryz.prog 133 (Value.int .i64) n_ where
 nil p cap w:=Tryz.slices_Sort_int_none p cap w
 row b cap l w hH hb hl:=(Tryz.slices_Sort_int b 0 cap l w hH hb hl).mono fun e w' ⟨h1,n,os,h2⟩=>⟨h1,n,os,by
  rw[h2]
  have:(fun x y:Int=>decide (x≤y))=fun x y=>!n_ y x:=by
   funext x y;rw[abG];simp[n_]
  rw[this]⟩
end Go.Proofs.YtjdnbobilgamdaaGreatDoor.Ab
end
section
set_option maxRecDepth 100000
namespace Go.Proofs.YtjdnbobilgamdaaGreatDoor.Ab
open Go
theorem si{α:Type}{a b:α}(h:some a=some b):a=b:=aa5 h
theorem wc{γ:Type}{F:FC}{Q:Exit→St→Prop}{st:St}{b:Bool}{c:Operand}{x y:Code}{A B r:Option γ}(hm:(if b=true then A else B)=r)(ht:b=true→A=r→AW F x Q st)(hf:b=false→B=r→AW F y Q st)(hc:ρ st.env c=.d (.bool b):=by exact rfl):AW F (.cond c x y) Q st:=
 AW.cond hc (fun h=>ht h (fU h hm)) (fun h=>hf h (Ce h hm))
theorem aG{b:Bool}(h:b=true:=by first|assumption|exact nt (by assumption)|(refine an ?_ ?_<;>first|assumption|exact nt (by assumption)|(refine an ?_ ?_<;>first|assumption|exact nt (by assumption)|(refine an ?_ ?_<;>first|assumption|exact nt (by assumption))))):b=true:=h
theorem aI{v u:V}(h:Is v u:=by first|exact .e rfl|exact .we aG rfl):Is v u:=h
theorem aA{v:V}{x:D}(h:As v x:=by first|exact .r rfl|exact .we aG rfl rfl):As v x:=h
theorem ZX{α:Type}{b:Bool}{a d x:α}(h:(if b=true then a else d)=x)(hc:b=true):a=x:=fU hc h
theorem aK{α:Type}{o:Option α}{r:α}(h:o=some r:=by first|assumption|exact ZX (by assumption) aG):o=some r:=h
theorem hHk{H H':List HE}{l:List Nat}{i:Nat}{e:HE}(h:∀ id,id∈l→H'[id]?=H[id]?)(hm:i∈l)(he:H[i]?=some e):H'[i]?=some e:=(h _ hm).trans he
theorem aH{H:List HE}{i:Nat}{e:HE}(h:H[i]?=some e:=by first|exact rfl|(apply hHk;assumption;simp;rfl)):H[i]?=some e:=h
theorem aEn{α:Type}{f:α→D}{s:Nat}(h:En f s:=by first|exact En.i|exact En.str|exact En.bool|exact En.int|exact En.sl|exact oE|exact nW|exact aay|exact lG|exact gv|exact BT|exact aad|exact QS|exact aae|exact Xd):En f s:=h
theorem Ix{t e s b:Nat}(h:pt Tryz.prog t e s b:=by first|exact R2|exact Xe|exact Dp|exact QV|exact Oc|exact xj|exact Ir|exact Xf|exact W1|exact EI|exact Og|exact ef|exact WY):pt Tryz.prog t e s b:=h
theorem ZY{t:Nat}(h:Sc Tryz.prog t:=by first|exact Xg|exact EJ|exact mK|exact sc4|exact ZZ|exact Ob|exact sc5|exact sc9):Sc Tryz.prog t:=h
theorem aAg{t n:Nat}(h:Ag Tryz.prog t n:=by first|exact R1|exact Xh|exact Oj|exact Oi|exact QK|exact TU|exact QM|exact QU|exact K_|exact W0|exact WW|exact Z0|exact TS|exact Z1):Ag Tryz.prog t n:=h
theorem aFd{t k o:Nat}(h:Fd Tryz.prog t k o:=by first|exact JJ|exact EH|exact yD|exact yE|exact rK|exact T5|exact T6|exact T7|exact T8|exact It|exact T9|exact T_|exact T'|exact Ua|exact Ub|exact Uc|exact Ud|exact Ue|exact Ol|exact Uf|exact Ug|exact BZ|exact Uh|exact Ui|exact Uj|exact Uk|exact Om|exact Ul|exact Um|exact Un|exact Uo|exact Up|exact Uq|exact Od|exact Oe|exact Of):Fd Tryz.prog t k o:=h
theorem aZr{t:Nat}{z:List Value}(h:Zr Tryz.prog t z:=by first|exact N9|exact Sb|exact Sd|exact JI|exact RZ|exact OZ|exact N7|exact N'|exact WZ|exact Im|exact Ip|exact Iq|exact TV|exact TT|exact QR|exact QL):Zr Tryz.prog t z:=h
theorem aBd{t:Nat}{z:List Value}{l:List (Nat×Nat)}(h:Bd Tryz.prog t z l:=by first|exact R3|exact Oa|exact WQ|exact WX|exact WV):Bd Tryz.prog t z l:=h
theorem aBa{t:Nat}{z:List Value}{n e s:Nat}(h:Ba Tryz.prog t z n e s:=by first|exact pG|exact N_|exact TO|exact Oh):Ba Tryz.prog t z n e s:=h
theorem pI{S:List Nat}{id off:Nat}(h:S[id]?=some id):sg S (.ptr id off) (.ptr id off):=.ptr h
theorem hI{S:List Nat}{id off n m s:Nat}(h:S[id]?=some id)(e:n=m):sg S (.hs id off n s) (.hs id off m s):=.hs h e
theorem tI{S:List Nat}{id:Nat}{l:List D}(h:S[id]?=some id):sg S (.tk id l) (.tk id l):=.tk h
theorem oI{S:List Nat}{id:Nat}(h:S[id]?=some id):sg S (.mp id) (.mp id):=.mp h
theorem lr{S:List Nat}{v u:V}(h:sg S v u:=by first|exact tI rfl|exact .d rfl|exact pI rfl|exact hI rfl rfl|exact oI rfl|exact hI rfl (qB (by assumption)).symm|exact .ex|exact .X7|exact .X8 (pI rfl)|exact .vp|exact .nil|exact .E4|exact .any):sg S v u:=h
theorem lc{S:List Nat}{c d:List V}(h:uN S c d:=by first|((repeat (apply uN.cons;exact lr));exact .nil)|exact .data):uN S c d:=h
theorem lo{S:List Nat}{x y:OB}(h:LW S x y:=by first|exact jm|exact SL|exact DV rfl|exact Z2|exact Z3|exact SH):LW S x y:=h
theorem lh{S T:List Nat}{H K:List HE}(h:kC S H T K:=by (repeat (first|(apply kC.bn;exact rfl)|(apply kC.row;exact rfl;exact lc)|(apply kC.ob;exact rfl;exact lo)|(apply kC.tok;exact rfl)|(apply kC.tb;exact rfl)|(apply kC.rs;exact rfl)|apply kC.dead));exact .nil):kC S H T K:=h
theorem ll{S:List Nat}{E:Nat→V}{m:List (Nat×V)}(h:AA S E m:=by (repeat (refine⟨lr,?_⟩));exact trivial):AA S E m:=h
theorem mt(n:Nat){n0:Nat}{E:Nat→V}{m:List (Nat×V)}{K:List HE}{s:St}(h:kC (List.range n) s.H (List.range n) K:=by exact lh)(h':AA (List.range n) s.env m:=by exact ll)(h1:vY n0 (List.range n)=true:=by rfl)(h2:distinct (List.range n)=true:=by rfl):nZ n0 E [] m K s:=⟨_,h1,h2,rfl,h',trivial,h⟩
theorem nx{α:Type}{P:α→Prop}{n0:Nat}{E:Nat→V}{m:α→List (Nat×V)}{K:α→List HE}{s:St}{x:α}(h:P x)(h2:nZ n0 E [] (m x) (K x) s):∃ x,P x∧nZ n0 E [] (m x) (K x) s:=⟨x,h,h2⟩
theorem lS{F:FC}{Q:Exit→St→Prop}{σ τ:Type}{c:Code}{E:Nat→V}{H:List HE}(n0:Nat){f:σ→Option (σ⊕τ)}{n:Nat}{s0:σ}{t:τ}(Ph:iter n f s0=some t)(m:σ→List (Nat×V))(K:σ→List HE)(h0:nZ n0 E [] (m s0) (K s0) ⟨E,H⟩)
  (round:∀ n' s,iter (n'+1) f s=some t→AW F c (oT (fun st=>∃ s',iter n' f s'=some t∧nZ n0 (py (m s)) [] (m s') (K s') st) Q) ⟨py (m s),K s⟩)(hg:∀ id,n0≤id→F.g0.σ id=none∧F.g0.τ id=none:=by exact aQ.g0 (by assumption) (by simp)):AW F (.loop c) Q ⟨E,H⟩:=AW.IS n0 m K Ph hg h0 round
theorem cS{F:FC}{Q:Exit→St→Prop}{α:Type}{x y:Code}{E:Nat→V}{H:List HE}{t:α}(n0:Nat)(m:α→List (Nat×V))(K:α→List HE)
  (h1:AW F x (oT (fun s=>∃ z,z=t∧nZ n0 E [] (m z) (K z) s) Q) ⟨E,H⟩)(h2:∀ z,z=t→AW F y Q ⟨py (m z),K z⟩)(hg:∀ id,n0≤id→F.g0.σ id=none∧F.g0.τ id=none:=by exact aQ.g0 (by assumption) (by simp)):AW F (.seq x y) Q ⟨E,H⟩:=AW.SG n0 (fun z=>z=t) m K hg h1 h2
inductive Iy(S:List Nat)(E:Nat→V):List Nat→List (Nat×V)→Prop
 |nil:Iy S E [] []
 |cons {i:Nat} {v:V} {k:List Nat} {m:List (Nat×V)}:sg S (E i) v→Iy S E k m→Iy S E (i::k) ((i,v)::m)
theorem Iy.l{S:List Nat}{E:Nat→V}{k:List Nat}{m:List (Nat×V)}(h:Iy S E k m):AA S E m:=by
 induction h with
 |nil=>trivial
 |cons a _ b=>exact⟨a,b⟩
theorem rs{F:FC}{Q:Exit→St→Prop}{c:Code}{E:Nat→V}{H:List HE}(n0:Nat)(k:List Nat)(n:Nat){m:List (Nat×V)}{K:List HE}(h:AW F c Q ⟨py m,K⟩)(hh:kC (List.range n) H (List.range n) K:=by exact lh)(hp:Iy (List.range n) E k m:=by (repeat (apply Iy.cons;exact lr));exact .nil)
  (hg:∀ id,n0≤id→F.g0.σ id=none∧F.g0.τ id=none:=by exact aQ.g0 (by assumption) (by simp))(h1:vY n0 (List.range n)=true:=by rfl)(h2:distinct (List.range n)=true:=by rfl):AW F c Q ⟨E,H⟩:=AW.reset n0 m K hg ⟨_,h1,h2,rfl,hp.l,trivial,hh⟩ h
class CF(f:FuncId) where
 hc:∀ (a:Array Value) (w:World),(callFunc f a).run Tryz.prog w=.ok (.enter f a) w
 {T:Prop}
 pf:T
theorem fc{P:Program}{ρ:Operand→V}{H:List HE}{ty:TypeId}{wh:Operand}{f:FuncId}{args:Array Operand}{ts:Array TypeId}{ds:List D}{res:D}(hf:Is (ρ wh) (.fn (.func f) []))(ha:qG ρ args.toList ds)(hc:∀ (a:Array Value) (w:World),(callFunc f a).run P w=.ok (.enter f a) w)(h:Fn P f ds res):bj P (.call ⟨.value wh,args,ts⟩) ty ρ H (.d res) H:=cb hc hf ha h
theorem aAs{ρ:Operand→V}{l:List Operand}{ds:List D}(h:qG ρ l ds:=by (repeat (apply qG.cons;exact aA));exact .nil):qG ρ l ds:=h
theorem bC{P:Program}{f:FuncId}{ds:List D}{r:D}[c:CF f](k:c.T→Fn P f ds r):Fn P f ds r:=k c.pf
theorem aC{P:Program}{f:FuncId}{ds:List D}{r:D}(h:Fn P f ds r:=by (apply bC;intro h;apply h;exact aK)):Fn P f ds r:=h
theorem Ox{o:Op}{ty:TypeId}{ρ:Operand→V}{H H':List HE}{v:V}(h:bj Tryz.prog o ty ρ H v H':=by first|(apply al;exact aI)|(apply bJ;exact aI)|(apply bo;exact aI;exact aH;rfl;exact ZY)|(apply tp;exact aA;exact Ix)|(apply bd;exact aI;exact aFd)|(apply gO;exact aA;exact aA)|(apply uX;exact aA;exact aA)|(apply bG;exact aA;exact aA;exact aK;exact aEn;exact Ix)|(apply AY;exact aI)|(apply sB;exact aI;rfl)|(apply cU;exact aI;rfl;exact ZY)|(apply sv;exact aA;rfl;exact fun _=>aA)|(apply AZ;exact aA;exact fun _=>aA;rfl)|(apply xL;exact aA;exact aA)|(apply lR;exact aI)|(apply xK;exact aA)|(apply xM;exact aA;exact aA)|(apply zS;exact aA;exact aA)|(apply wA;exact aI;exact aH;(case ht=>exact aAg);rfl;rfl)|(apply SI;exact aA;exact aA)|(apply xN;exact aA;exact aA)|(apply se;exact aI;exact aI;exact aH;rfl;rfl;exact⟨_,rfl,rfl⟩;rfl;exact aaR rfl)|(apply Fk;exact aI)|(apply rQ;exact aI;exact aH;rfl;exact aA;exact aK;exact Ix)|(apply Hx;exact aA;exact aA)|(apply AX;exact aI)|(apply AV;exact aI)|(apply AU;exact aI)|(apply Au;exact aI;rfl;exact aAg)|(apply Az;exact Ix;exact aI;exact aA;exact aH;rfl;exact aEn;exact aK)|(apply JY;exact aI;exact aI;exact aH;rfl;exact⟨_,rfl,rfl⟩;rfl;exact aaR rfl)|(apply Me;exact aI)|(apply O';exact aA;exact aA)|(apply zr;exact aI;exact aH;exact aA;exact aK;exact Ix)|(apply CG;exact aI;exact aH;exact Ix)|(apply Pb;exact aA;exact aA;exact aK)|(apply Ch;exact aI;exact aH;exact aK;exact ZY)|(apply PH;exact aA;exact aA)|(apply JX;exact aI;exact aI;exact aH;rfl;rfl;exact⟨_,rfl,rfl⟩;exact aaR rfl)|(apply Pc;exact aA;exact aA;exact aK)|(apply gP;exact aI;exact aFd)|(apply PI;exact aA;exact aA)|(apply Hv;exact aI)|(apply Ht;exact aI)|(apply my;exact aI;rfl)|(apply SK;exact aA;exact aA)|(apply Hw;exact aI)|(apply SE;exact aA;exact aA)|(apply PA;exact aI)|(apply Pa;exact aA)|(apply LQ;exact aA;exact aA;exact aK)|(apply Pn;exact aA;exact aA)|(apply Mh;exact aI)|(apply Cg;)|(apply SJ;exact aA;exact aA)|(apply Pm;exact aA;exact aA)|(apply Kh;exact aA;exact Ix;exact aA;exact aA;exact aK)|(apply IU;exact aA;exact aA;exact aA)|(apply fc;exact aI;exact aAs;exact CF.hc;exact aC)):bj Tryz.prog o ty ρ H v H':=h
theorem go{G G':Prop}(k:G')(h:G'→G:=by first|(apply AL.s;exact rfl;exact Ox)|exact AL.nil|exact AW.kz|(apply AD.s (ws:=[]);exact rfl;exact rfl;exact fun _ _ _=>Ox)|(apply AD.s (ws:=[(_,_)]);exact rfl;exact rfl;exact fun _ _ _=>Ox)|(apply AL.sF;exact rfl;exact rfl;exact rfl;exact rfl;exact fun _=>Ox)|(apply AL.sT;exact rfl;exact rfl;exact rfl;exact rfl;exact fun _=>Ox)|(apply AL.Uy;exact rfl;exact rfl;exact rfl;exact rfl;exact fun _ _=>Ox)|(apply AL.EV;exact rfl;exact rfl;exact rfl;exact rfl;exact fun _ _=>Ox)|exact AW.seq|exact AW.skip|exact AW.block|exact AD.nil|exact AW.ret|exact AW.exit|exact AW.region|(apply AD.sF;exact rfl;exact rfl;exact rfl;exact rfl;exact fun _ _ _ _=>Ox)|(apply AD.sT;exact rfl;exact rfl;exact rfl;exact rfl;exact fun _ _ _ _=>Ox)|(apply AD.Uy;exact rfl;exact rfl;exact rfl;exact rfl;exact fun _ _ _ _ _=>Ox)|(apply AD.EV;exact rfl;exact rfl;exact rfl;exact rfl;exact fun _ _ _ _ _=>Ox)):G:=h k
theorem ed{P:Program}{st:St}{t:Nat}{x:D}(h:(st.env t).zP=some x):∃ vs v,rk P st [.tmp t] vs∧Le (kF vs) v∧v=.d x:=kg.d (vs:=[st.env t]) (.tmp (.e rfl) .nil) h rfl
theorem m2{n0:Nat}{E:Nat→V}{m:List (Nat×V)}{K:List HE}{s:St}(h:kC (List.range s.H.length) s.H (List.range s.H.length) K:=by exact lh)(h':AA (List.range s.H.length) s.env m:=by exact ll)(h1:vY n0 (List.range s.H.length)=true:=by rfl)(h2:distinct (List.range s.H.length)=true:=by rfl):nZ n0 E [] m K s:=⟨_,h1,h2,rfl,h',trivial,h⟩
theorem wk{G:Prop}(h:G:=by repeat' first|refine go ?_|(obtain⟨_,_,hm⟩:=aa hm)|refine wc hm (fun _ hm=>?_) fun _ hm=>?_|(obtain rfl:=si hm;first|exact ed rfl|exact nx rfl m2|exact nx hI6 m2|exact nx hI5 m2|exact nx hI4 m2|exact nx ED m2|exact nx gr m2|exact nx av m2|exact⟨_,_,(.tmp .r .nil),.d rfl,rfl,rfl⟩|exact kg.d (.tmp .r (.tmp .r .nil)) rfl rfl|exact kg.d (.tmp .r (.tmp .r (.tmp .r .nil))) rfl rfl)|(obtain rfl:=si hm;obtain rfl:=si hI6;replace hm:=hk6;try dsimp only at hm)|(obtain rfl:=si hm;obtain rfl:=si hI5;replace hm:=hk5;try dsimp only at hm)|(obtain rfl:=si hm;obtain rfl:=si hI4;replace hm:=hk4;try dsimp only at hm)|(obtain rfl:=si hm;obtain rfl:=si ED;replace hm:=LA;try dsimp only at hm)|(obtain rfl:=si hm;obtain rfl:=si gr;replace hm:=oJ;try dsimp only at hm)|(obtain rfl:=si hm;obtain rfl:=si av;replace hm:=en;try dsimp only at hm)):G:=h
theorem aaT{P:Program}{f:FuncId}{fnn:Func}{c:Code}{args:List D}{res:D}(hf:P.funcs[f]?=some fnn)(h:∀ g0 w0,aQ g0 w0 []→AW ⟨P,fnn.ntmps,g0,w0⟩ c (kg P fnn.results.toList fun r _=>r=.d res) ⟨rT (args.map .d),[]⟩)(hb:fnn.body=some c:=by rfl)(hn:args.length≤fnn.ntmps:=by exact aaR rfl):Fn P f args res:=Fn.ar hf hb hn h
theorem aaU{P:Program}{f:FuncId}{fnn:Func}{c:Code}{args:List V}{H:List HE}{R:V→List HE→Prop}(hf:P.funcs[f]?=some fnn)(h:∀ g0 w0,aQ g0 w0 H→AW ⟨P,fnn.ntmps,g0,w0⟩ c (kg P fnn.results.toList R) ⟨rT args,H⟩)(hb:fnn.body=some c:=by rfl)(hn:args.length≤fnn.ntmps:=by exact aaR rfl):aJ P f args H R:=aJ.ar hf hb hn h
end Go.Proofs.YtjdnbobilgamdaaGreatDoor.Ab
end
