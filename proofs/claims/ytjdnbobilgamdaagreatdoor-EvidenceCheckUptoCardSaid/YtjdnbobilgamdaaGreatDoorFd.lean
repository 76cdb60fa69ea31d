/- The functions do what they are in plain Lean. Conditions: none. -/
import Derived.Test.YtjdnbobilgamdaaGreatDoorTg
import Derived.Test.YtjdnbobilgamdaaGreatDoorMi
import Derived.Test.YtjdnbobilgamdaaGreatDoorFc
set_option maxRecDepth 100000
set_option maxHeartbeats 20000000
namespace Go.Proofs.YtjdnbobilgamdaaGreatDoor.Ab
open Go
attribute [local irreducible] bj AL AD AW tE zT lT
theorem zA{n:Nat}{a1:(List ah)}{r:Bool}(hm:ly n a1=some r):Fn Tryz.prog 157 [(.sl (a1.map ah.e))] (.bool r):=by
 unfold ly at hm
 refine aaT Tryz.func157 fun g0 w0 bR=>?_
 iterate 13 refine go ?_
 obtain⟨v2,ui,hm⟩:=aa hm
 refine AL.sT rfl rfl rfl rfl (fun g=>bZ Tryz.call225 .r (.cons (.we g rfl) (.cons (.we g rfl) .nil)) (h_ Tryz.call224 (fun _ _ hb=>(xi hb).at _) (fU g ui))) ?_
 exact wk
instance:CF 157:=⟨Tryz.call157,@zA⟩
theorem vC{n:Nat}{a1:A3}{r:Bool}(hm:gC n a1=some r):Fn Tryz.prog 162 [(A3.e a1)] (.bool r):=by
 unfold gC at hm
 refine aaT Tryz.func162 fun g0 w0 bR=>?_
 refine go ?_
 refine AL.s rfl (cW (n:=0) .r rfl rfl rfl) ?_
 iterate 2 refine go ?_
 refine AW.qE (cs:=(A3.e a1).cells) 0 [1] rfl ⟨rfl,trivial⟩ ?_
 refine go ?_
 refine AL.s rfl (bj.zP (ss (f:=ah.e) (l:=a1.l) (s:=2) .r rfl gv rfl Tryz.underlying86 ⟨_,rfl,rfl⟩) rfl) ?_
 exact wk
theorem ye{n:Nat}{a1:ej}{r:Bool}(hm:jW n a1=some r):Fn Tryz.prog 115 [(ej.e a1)] (.bool r):=by
 unfold jW at hm
 refine aaT Tryz.func115 fun g0 w0 bR=>?_
 refine go ?_
 refine AL.s rfl (cW (n:=0) .r rfl rfl rfl) ?_
 iterate 2 refine go ?_
 refine AW.qE (cs:=(ej.e a1).cells) 0 [1] rfl ⟨rfl,trivial⟩ ?_
 refine go ?_
 refine AL.s rfl (bj.zP (ss (f:=A3.e) (l:=a1.l) (s:=6) .r rfl BT rfl Tryz.underlying88 ⟨_,rfl,rfl⟩) rfl) ?_
 obtain⟨v2,ui,hm⟩:=aa hm
 refine AL.s rfl (bZ Tryz.call161 .r (.cons .r (.cons .r .nil)) (gw Tryz.call162 (fun _ _ hb=>(vC hb).at _) ui)) ?_
 exact wk
instance:CF 115:=⟨Tryz.call115,@ye⟩
theorem tg{n:Nat}{a1:Int}{r:Bool}(hm:fw n a1=some r):Fn Tryz.prog 117 [(.int .i64 a1)] (.bool r):=by
 unfold fw at hm
 refine aaT Tryz.func117 fun g0 w0 bR=>?_
 exact wk
theorem vD{n:Nat}{a1:ej}{a2:A7}{r:((List ah)×Int)}(hm:gD n a1 a2=some r):Fn Tryz.prog 63 [(ej.e a1),(A7.e a2)] (.gd [(.sl (r.1.map ah.e)),(.int .i64 r.2)]):=by
 unfold gD at hm
 refine aaT Tryz.func63 fun g0 w0 bR=>?_
 refine rs 0 [0,1] 0 ?_
 refine go ?_
 refine AL.s rfl (cW (n:=0) .r rfl rfl rfl) ?_
 refine AL.s rfl (cW (n:=1) .r rfl rfl rfl) ?_
 iterate 4 refine go ?_
 refine AW.qE (cs:=(A7.e a2).cells) 1 [3] rfl ⟨rfl,trivial⟩ ?_
 iterate 2 refine go ?_
 obtain⟨v3,iw,hm⟩:=aa hm
 iterate 3 refine go ?_
 refine AL.sF rfl rfl rfl rfl (fun g=>bj.zP (ss (f:=D.i) (l:=a2.l) (s:=1) .r rfl En.i rfl Tryz.underlying37 ⟨_,rfl,rfl⟩) rfl) ?_
 obtain⟨v4,ir,hm⟩:=aa hm
 refine AL.sF rfl rfl rfl rfl (fun g=>bZ Tryz.call116 .r (.cons (.we (nt g) rfl) (.cons .r .nil)) (ez Tryz.call117 (fun _ _ hb=>(tg hb).at _) (fU (nt g) ir))) ?_
 iterate 2 refine go ?_
 refine wc hm (fun bB hm=>?_) fun bB hm=>?_
 ·exact wk
 ·iterate 10 refine go ?_
  refine AW.mU (n:=2) 6 85 2 rfl rfl (by simp) ?_
  obtain⟨kA,av,en⟩:=aa hm
  refine lS 0 av (fun x=>[(2,.ptr 0 0),(6,.tk 2 (x.1.map ah.e)),(16,.d (A7.e a2)),(17,.d (.int .i64 x.2))]) (fun x=>[.row ((ej.e a1).cells.map .d),.dead,.tok x.1.length 85 2]) (mt 3) ?_
  rintro n1 ⟨s5,s6⟩ av
  obtain⟨dj,hm,av⟩:=aZ av
  dsimp only[eM] at hm
  iterate 4 refine go ?_
  refine wc hm (fun di hm=>?_) fun di hm=>?_
  ·refine go ?_
   obtain⟨iP,hm,hZ⟩:=aa hm
   refine cS (t:=iP) 0 (fun x=>[(2,.ptr 0 0),(6,.tk 2 (x.map ah.e)),(16,.d (A7.e a2)),(17,.d (.int .i64 s6))]) (fun x=>[.row ((ej.e a1).cells.map .d),.dead,.tok x.length 85 2]) ?_ ?_
   ·skip
    iterate 3 refine go ?_
    obtain⟨v7,mE,hm⟩:=aa hm
    refine AL.s rfl (yW (f:=D.i) (l:=a2.l) (s:=1) (.r rfl) rfl En.i (.r rfl) mE rfl Tryz.underlying37 (.inl ⟨mK,fun _=>rfl⟩) ⟨_,rfl,rfl⟩) ?_
    iterate 7 refine go ?_
    refine wc hm (fun mq hm=>?_) fun mq hm=>?_
    ·iterate 5 refine go ?_
     obtain⟨v8,oA,hm⟩:=aa hm
     refine AL.s rfl (df (l:=a1.l) (s:=6) .r (.r rfl) oA rfl Tryz.underlying88 ⟨_,rfl,rfl⟩) ?_
     obtain⟨v9,pR,hm⟩:=aa hm
     refine AL.s rfl (df (l:=v8.l) (s:=2) .r (.r rfl) pR rfl Tryz.underlying86 ⟨_,rfl,rfl⟩) ?_
     refine AL.s rfl (uV (X:=(ej.e a1).cells) .r rfl (lJ.ix (f:=ah.e) (l:=v8.l) gv (lJ.ix (f:=A3.e) (l:=a1.l) BT (lJ.root:lJ (ej.e a1).cells 0 _ _) oA) pR) WW) ?_
     refine AL.s rfl (aF (ds:=([v9]:List ah).map ah.e) R2 (.cons (.r rfl) rfl (gv.one _) .nil) rfl (by decide)) ?_
     exact wk
    ·exact wk
   ·rintro i_ rfl
    replace hm:=hZ
    exact wk
  ·exact wk
instance:CF 63:=⟨Tryz.call63,@vD⟩
theorem BU{n:Nat}{a1:Int}{r:(List Int)}(hm:om n a1=some r):Fn Tryz.prog 325 [(.int .i64 a1)] (.sl (r.map D.i)):=by
 unfold om at hm
 refine aaT Tryz.func325 fun g0 w0 bR=>?_
 refine rs 0 [0] 0 ?_
 iterate 8 refine go ?_
 refine AW.mU (n:=0) 3 3 1 rfl rfl (by simp) ?_
 obtain⟨kA,av,en⟩:=aa hm
 refine lS 0 av (fun x=>[(0,.d (.int .i64 x.1)),(3,.tk 0 (x.2.map D.i))]) (fun x=>[.tok x.2.length 3 1]) (mt 1) ?_
 rintro n1 ⟨s2,s3⟩ av
 obtain⟨dj,hm,av⟩:=aZ av
 dsimp only[kL] at hm
 iterate 5 refine go ?_
 refine wc hm (fun bB hm=>?_) fun bB hm=>?_
 ·iterate 6 refine go ?_
  obtain⟨v4,ir,hm⟩:=aa hm
  refine go ?_
  refine AL.s rfl (aF (ds:=([v4]:List Int).map D.i) xj (.cons (.r rfl) rfl (En.i.one _) .nil) rfl (by decide)) ?_
  exact wk
 ·exact wk
instance:CF 325:=⟨Tryz.call325,@BU⟩
theorem GA{n:Nat}{a1:Int}{r:((List Int)×Int)}(hm:sL n a1=some r):Fn Tryz.prog 276 [(.int .i64 a1)] (.gd [(.sl (r.1.map D.i)),(.int .i64 r.2)]):=by
 unfold sL at hm
 refine aaT Tryz.func276 fun g0 w0 bR=>?_
 iterate 9 refine go ?_
 refine wc hm (fun bB hm=>?_) fun bB hm=>?_
 ·exact wk
 ·exact wk
instance:CF 276:=⟨Tryz.call276,@GA⟩
theorem nO{n:Nat}{a1:Int}{r:(List Int)}(hm:fS n a1=some r):Fn Tryz.prog 226 [(.int .i64 a1)] (.sl (r.map D.i)):=by
 unfold fS at hm
 refine aaT Tryz.func226 fun g0 w0 bR=>?_
 exact wk
instance:CF 226:=⟨Tryz.call226,@nO⟩
theorem mJ{n:Nat}{H:List HE}{a1:(List Int)}{p2:Int→Option Bool}{r:Int}{bu:FuncId}{bw:List V}(dQ:∀ (a:Array Value) (w:World),(callFunc bu a).run Tryz.prog w=.ok (.enter bu a) w)(gq:∀ (y1:Int) (b:Bool),p2 y1=some b→aJ Tryz.prog bu (.d (.int .i64 y1)::bw) H fun r' H'=>r'=.d (.bool b)∧H'=H)(hm:eV n a1 p2=some r):aJ Tryz.prog 341 [.d (.sl (a1.map D.i)),.fn (.func bu) bw] H fun r' H'=>r'=.d (.int .i64 r)∧H'=H:=by
 unfold eV at hm
 refine aaU Tryz.func341 fun g0 w0 bR=>?_
 iterate 10 refine go ?_
 obtain⟨kA,av,en⟩:=aa hm
 refine AW.vZ (σ:=Int) (τ:=(Int⊕Unit)) [0,1,7] (fun x=>[(8,.d (.int .i64 x))]) av ⟨by first|exact .of rfl|exact .d rfl,trivial⟩ ?_
 rintro n1 s3 av
 obtain⟨dj,hm,av⟩:=aZ av
 dsimp only[ec] at hm
 iterate 4 refine go ?_
 refine wc hm (fun bB hm=>?_) fun bB hm=>?_
 ·iterate 11 refine go ?_
  obtain⟨v4,ir,hm⟩:=aa hm
  iterate 2 refine go ?_
  obtain⟨v5,jL,hm⟩:=aa hm
  refine AL.s rfl (bZ dQ .r (.cons .r .nil) (gq _ _ jL)) ?_
  refine go ?_
  refine wc hm (fun di hm=>?_) fun di hm=>?_
  ·exact wk
  ·iterate 5 refine go ?_
   obtain rfl:=si hm
   exact Exists.intro _ ⟨av,⟨by first|exact .of rfl|exact .d rfl,trivial⟩,⟨rfl,rfl,rfl,trivial⟩,rfl⟩
 ·exact wk
theorem lM{n:Nat}{H:List HE}{a1:(List Int)}{p2:Int→Option Bool}{r:Bool}{bu:FuncId}{bw:List V}(dQ:∀ (a:Array Value) (w:World),(callFunc bu a).run Tryz.prog w=.ok (.enter bu a) w)(gq:∀ (y1:Int) (b:Bool),p2 y1=some b→aJ Tryz.prog bu (.d (.int .i64 y1)::bw) H fun r' H'=>r'=.d (.bool b)∧H'=H)(hm:cI n a1 p2=some r):aJ Tryz.prog 326 [.d (.sl (a1.map D.i)),.fn (.func bu) bw] H fun r' H'=>r'=.d (.bool r)∧H'=H:=by
 unfold cI at hm
 refine aaU Tryz.func326 fun g0 w0 bR=>?_
 iterate 6 refine go ?_
 obtain⟨v3,iw,hm⟩:=aa hm
 refine AL.s rfl (bZ Tryz.call341 .r (.cons .r (.cons .r .nil)) (mJ dQ gq iw)) ?_
 exact wk
theorem yf{n:Nat}{a1:Int}{r:Bool}(hm:lV n a1=some r):Fn Tryz.prog 327 [(.int .i64 a1)] (.bool r):=by
 unfold lV at hm
 refine aaT Tryz.func327 fun g0 w0 bR=>?_
 exact wk
theorem BV{n:Nat}{a1:(List Int)}{r:Bool}(hm:eD n a1=some r):Fn Tryz.prog 278 [(.sl (a1.map D.i))] (.bool r):=by
 unfold eD at hm
 refine aaT Tryz.func278 fun g0 w0 bR=>?_
 iterate 10 refine go ?_
 obtain⟨v2,ui,hm⟩:=aa hm
 refine AL.sF rfl rfl rfl rfl (fun g=>bZ Tryz.call326 .r (.cons (.we (nt g) rfl) (.cons .r .nil)) (lM Tryz.call327 (fun _ _ hb=>(yf hb).at _) (fU (nt g) ui))) ?_
 iterate 2 refine go ?_
 refine wc hm (fun bB hm=>?_) fun bB hm=>?_
 ·exact wk
 ·exact wk
instance:CF 278:=⟨Tryz.call278,@BV⟩
theorem yg{n:Nat}{c1:(List Int)}{r:(List Int)}(hm:jZ n c1=some r):aJ Tryz.prog 328 [.hs 0 0 c1.length 1] [.bn (c1.map D.i) 3 1] fun r' H'=>r'=kF [.hs 1 0 r.length 1]∧H'=[.dead,.bn (r.map D.i) 3 1]:=by
 unfold jZ at hm
 refine aJ.rl (fnn:=Tryz.f328) Tryz.func328 rfl (aaR rfl) (fun g0 w0 bR=>?_)
 refine rs 1 [0] 1 ?_
 iterate 5 refine go ?_
 obtain⟨kA,av,en⟩:=aa hm
 refine lS 1 av (fun x=>[(0,.hs 0 0 x.length 1)]) (fun x=>[.bn (x.map D.i) 3 1]) (mt 1) ?_
 rintro n1 s2 av
 obtain⟨dj,hm,av⟩:=aZ av
 dsimp only[fW] at hm
 iterate 10 refine go ?_
 obtain⟨v3,iw,hm⟩:=aa hm
 refine go ?_
 obtain⟨v4,ir,hm⟩:=aa hm
 refine AL.sT rfl rfl rfl rfl (fun g=>eg (f:=D.i) (fun _=>rfl) (.we g rfl) rfl (fU g ir) mK) ?_
 refine AL.sT rfl rfl rfl rfl (fun g=>xM (.we g rfl rfl) (.r rfl)) ?_
 refine AL.s rfl (AZ (.r rfl) (fun h=>(.we h rfl rfl)) rfl) ?_
 refine AL.nil ?_
 refine wc hm (fun bB hm=>?_) fun bB hm=>?_
 ·iterate 7 refine go ?_
  obtain⟨v5,jL,hm⟩:=aa hm
  refine AL.s rfl (xH (f:=D.i) (l:=s2) .r rfl rfl xj (.r rfl) jL) ?_
  exact wk
 ·refine go ?_
  obtain rfl:=si hm
  obtain rfl:=si av
  replace hm:=en
  try dsimp only at hm
  iterate 4 refine go ?_
  refine AW.CK (n:=1) (f:=D.i) (l:=s2) 0 [2] rfl rfl ⟨rfl,trivial⟩ ?_
  refine go ?_
  obtain rfl:=si hm
  exact⟨_,[0,1],(.tmp .r .nil),rfl,rfl,(.cons (.hs rfl rfl) .nil),(.dead (.bn rfl .nil))⟩
theorem th{n:Nat}{a1:(List Int)}{a2:(List Int)}{r:(List Int)}(hm:kI n a1 a2=some r):Fn Tryz.prog 279 [(.sl (a1.map D.i)),(.sl (a2.map D.i))] (.sl (r.map D.i)):=by
 unfold kI at hm
 refine aaT Tryz.func279 fun g0 w0 bR=>?_
 refine rs 0 [0,1] 0 ?_
 iterate 9 refine go ?_
 obtain⟨v3,iw,hm⟩:=aa hm
 refine AL.s rfl (qC (n:=0) (f:=D.i) (.r rfl) xj OZ rfl rfl iw) ?_
 iterate 9 refine go ?_
 obtain⟨kA,av,en⟩:=aa hm
 refine lS 0 av (fun x=>[(1,.d (.sl (a2.map D.i))),(5,.hs 0 0 x.2.length 1),(16,.d (.sl (a1.map D.i))),(17,.d (.int .i64 (a1.length:Int))),(18,.d (.int .i64 x.1))]) (fun x=>[.bn (x.2.map D.i) 3 1]) (mt 1) ?_
 rintro n1 ⟨s4,s5⟩ av
 obtain⟨dj,hm,av⟩:=aZ av
 dsimp only[kJ] at hm
 iterate 4 refine go ?_
 refine wc hm (fun bB hm=>?_) fun bB hm=>?_
 ·iterate 5 refine go ?_
  obtain⟨v6,oz,hm⟩:=aa hm
  iterate 15 refine go ?_
  obtain⟨JH,gr,oJ⟩:=aa hm
  refine lS 0 gr (fun x=>[(1,.d (.sl (a2.map D.i))),(5,.hs 0 0 x.2.2.length 1),(6,.d (.int .i64 s4)),(7,.d (.int .i64 v6)),(8,.d (.int .i64 x.1)),(16,.d (.sl (a1.map D.i))),(17,.d (.int .i64 (a1.length:Int))),(18,.d (.int .i64 s4)),(24,.d (.int .i64 (a2.length:Int))),(25,.d (.int .i64 x.2.1))]) (fun x=>[.bn (x.2.2.map D.i) 3 1]) (mt 1) ?_
  rintro n2 ⟨s7,s8,s9⟩ gr
  obtain⟨xg,hm,gr⟩:=aZ gr
  dsimp only[iD] at hm
  iterate 4 refine go ?_
  refine wc hm (fun di hm=>?_) fun di hm=>?_
  ·iterate 7 refine go ?_
   refine AW.ml [([],[]),([],[]),([],[]),([],[]),([],[]),([0],[]),([0],[]),([],[]),([],[]),([],[]),([],[]),([],[]),([],[]),([],[]),([],[]),([],[])] mo (by decide+kernel) ?_
   iterate 5 refine go ?_
   obtain⟨v10,lC,hm⟩:=aa hm
   refine go ?_
   obtain⟨v11,nw,hm⟩:=aa hm
   refine AD.s (ws:=[]) rfl rfl (fun H' _ hH=>eg (f:=D.i) (fun _=>rfl) .r ((hH _ (by simp)).trans rfl) nw mK) ?_
   refine AD.s (ws:=[]) rfl rfl (fun H' _ hH=>al .r) ?_
   refine AD.s (ws:=[]) rfl rfl (fun H' _ hH=>al .r) ?_
   refine AD.s (ws:=[]) rfl rfl (fun H' _ hH=>al .r) ?_
   obtain⟨v12,pc,hm⟩:=aa hm
   iterate 13 refine go ?_
   obtain⟨qs,xh,hm⟩:=aa hm
   refine go ?_
   obtain⟨uH,vu,hm⟩:=aa hm
   refine go ?_
   obtain⟨uM,rH,hm⟩:=aa hm
   refine AL.s rfl (e9 (f:=D.i) (fun _=>rfl) .r (.r rfl) rfl rH ⟨_,rfl,rfl⟩ En.i) ?_
   refine AL.nil ?_
   refine AW.region ?_
   refine AL.s rfl (al .r) ?_
   exact wk
  ·refine go ?_
   obtain rfl:=si hm
   obtain rfl:=si gr
   replace hm:=oJ
   try dsimp only at hm
   iterate 7 refine go ?_
   obtain⟨v17,Gx,hm⟩:=aa hm
   refine go ?_
   obtain⟨ES,yd,hm⟩:=aa hm
   refine AL.s rfl (e9 (f:=D.i) (fun _=>rfl) .r (.r rfl) rfl yd ⟨_,rfl,rfl⟩ En.i) ?_
   refine AL.nil ?_
   refine DP ?_
   refine nq ?_
   refine AW.region ?_
   refine AL.s rfl (gO (.r rfl) (.r rfl)) ?_
   refine AL.s rfl (al .r) ?_
   refine AL.nil ?_
   exact wk
 ·refine go ?_
  obtain rfl:=si hm
  obtain rfl:=si av
  replace hm:=en
  try dsimp only at hm
  refine rs 0 [5] 1 ?_
  iterate 2 refine go ?_
  obtain⟨zz,Io,hm⟩:=aa hm
  refine AL.s rfl (lQ (v:=.hs 1 0 zz.length 1) (H':=[.dead,.bn (zz.map D.i) 3 1]) [0] Tryz.call328 .r (.cons .r .nil) (yg Io) rfl (.cons rfl .nil) rfl rfl rfl rfl rfl rfl rfl rfl) ?_
  iterate 2 refine go ?_
  refine AW.freeze (f:=D.i) (l:=zz) 1 [4,62] rfl rfl En.i ⟨rfl,rfl,trivial⟩ ?_
  exact wk
instance:CF 279:=⟨Tryz.call279,@th⟩
theorem ux{n:Nat}{a1:(List Int)}{r:(List Int)}(hm:iC n a1=some r):Fn Tryz.prog 328 [(.sl (a1.map D.i))] (.sl (r.map D.i)):=by
 unfold iC at hm
 refine aaT Tryz.func328 fun g0 w0 bR=>?_
 refine rs 0 [0] 0 ?_
 iterate 5 refine go ?_
 obtain⟨kA,av,en⟩:=aa hm
 refine lS 0 av (fun x=>[(0,.d (.sl (x.map D.i)))]) (fun x=>[]) (mt 0) ?_
 rintro n1 s2 av
 obtain⟨dj,hm,av⟩:=aZ av
 dsimp only[iq] at hm
 iterate 10 refine go ?_
 obtain⟨v3,iw,hm⟩:=aa hm
 iterate 5 refine go ?_
 refine wc hm (fun bB hm=>?_) fun bB hm=>?_
 ·iterate 7 refine go ?_
  obtain⟨v4,ir,hm⟩:=aa hm
  refine AL.s rfl (nD (f:=D.i) (.r rfl) xj rfl (.r rfl) En.i ir) ?_
  exact wk
 ·exact wk
instance:CF 328:=⟨Tryz.call328,@ux⟩
theorem yh{n:Nat}{a1:(List Int)}{r:((List Int)×Int)}(hm:j6 n a1=some r):Fn Tryz.prog 280 [(.sl (a1.map D.i))] (.gd [(.sl (r.1.map D.i)),(.int .i64 r.2)]):=by
 unfold j6 at hm
 refine aaT Tryz.func280 fun g0 w0 bR=>?_
 iterate 7 refine go ?_
 obtain⟨v2,ui,hm⟩:=aa hm
 iterate 8 refine go ?_
 refine wc hm (fun bB hm=>?_) fun bB hm=>?_
 ·exact wk
 ·exact wk
instance:CF 280:=⟨Tryz.call280,@yh⟩
theorem EG{n:Nat}{a1:(List Int)}{a2:(List Int)}{r:((List Int)×Int)}(hm:qK n a1 a2=some r):Fn Tryz.prog 277 [(.sl (a1.map D.i)),(.sl (a2.map D.i))] (.gd [(.sl (r.1.map D.i)),(.int .i64 r.2)]):=by
 unfold qK at hm
 refine aaT Tryz.func277 fun g0 w0 bR=>?_
 iterate 7 refine go ?_
 obtain⟨v3,iw,hm⟩:=aa hm
 iterate 4 refine go ?_
 obtain⟨v4,ir,hm⟩:=aa hm
 iterate 4 refine go ?_
 refine wc hm (fun bB hm=>?_) fun bB hm=>?_
 ·exact wk
 ·exact wk
instance:CF 277:=⟨Tryz.call277,@EG⟩
theorem oO{n:Nat}{a1:(List Int)}{a2:(List Int)}{r:(List Int)}(hm:lz n a1 a2=some r):Fn Tryz.prog 227 [(.sl (a1.map D.i)),(.sl (a2.map D.i))] (.sl (r.map D.i)):=by
 unfold lz at hm
 refine aaT Tryz.func227 fun g0 w0 bR=>?_
 exact wk
instance:CF 227:=⟨Tryz.call227,@oO⟩
theorem zB{n:Nat}{a1:(List ah)}{r:((List Int)×(List Int))}(hm:nf n a1=some r):Fn Tryz.prog 158 [(.sl (a1.map ah.e))] (.gd [(.sl (r.1.map D.i)),(.sl (r.2.map D.i))]):=by
 unfold nf at hm
 refine aaT Tryz.func158 fun g0 w0 bR=>?_
 refine rs 0 [0] 0 ?_
 iterate 5 refine go ?_
 obtain⟨v2,ui,hm⟩:=aa hm
 refine go ?_
 obtain⟨v3,iw,hm⟩:=aa hm
 iterate 11 refine go ?_
 obtain⟨kA,av,en⟩:=aa hm
 refine lS 0 av (fun x=>[(2,.d (.sl (x.1.map D.i))),(3,.d (.sl (x.2.1.map D.i))),(8,.d (.sl (a1.map ah.e))),(9,.d (.int .i64 (a1.length:Int))),(10,.d (.int .i64 x.2.2))]) (fun x=>[]) (mt 0) ?_
 rintro n1 ⟨s4,s5,s6⟩ av
 obtain⟨dj,hm,av⟩:=aZ av
 dsimp only[jH] at hm
 iterate 4 refine go ?_
 refine wc hm (fun bB hm=>?_) fun bB hm=>?_
 ·iterate 4 refine go ?_
  obtain⟨v7,mE,hm⟩:=aa hm
  iterate 2 refine go ?_
  refine AL.s rfl (bE (n:=0) TT rfl) ?_
  iterate 2 refine go ?_
  refine AW.drawn [([],[]),([],[]),([0],[]),([],[]),([],[]),([],[]),([],[]),([0],[]),([],[]),([],[]),([],[]),([],[])] mo (by decide+kernel) ?_
  iterate 3 refine go ?_
  obtain⟨v8,oA,hm⟩:=aa hm
  refine AD.s (ws:=[]) rfl rfl (fun _ _ hH=>cb Tryz.call226 .r (.cons (.r rfl) .nil) (nO oA)) ?_
  obtain⟨v9,pR,hm⟩:=aa hm
  refine AD.s (ws:=[]) rfl rfl (fun _ _ hH=>cb Tryz.call227 .r (.cons (.r rfl) (.cons (.r rfl) .nil)) (oO pR)) ?_
  iterate 3 refine go ?_
  obtain⟨v10,lC,hm⟩:=aa hm
  refine AD.s (ws:=[]) rfl rfl (fun _ _ hH=>cb Tryz.call226 .r (.cons (.r rfl) .nil) (nO lC)) ?_
  obtain⟨v11,nw,hm⟩:=aa hm
  refine AD.s (ws:=[]) rfl rfl (fun _ _ hH=>cb Tryz.call227 .r (.cons (.r rfl) (.cons (.r rfl) .nil)) (oO nw)) ?_
  iterate 7 refine go ?_
  obtain rfl:=si hm
  exact nx av (mt 0)
 ·refine go ?_
  obtain rfl:=si hm
  obtain rfl:=si av
  replace hm:=en
  try dsimp only at hm
  iterate 7 refine go ?_
  obtain rfl:=si hm
  exact kg.d (.tmp .r (.tmp .r .nil)) rfl rfl
instance:CF 158:=⟨Tryz.call158,@zB⟩
theorem BW{n:Nat}{a1:(List Int)}{a2:Int}{r:((List Int)×Int)}(hm:oo n a1 a2=some r):Fn Tryz.prog 231 [(.sl (a1.map D.i)),(.int .i64 a2)] (.gd [(.sl (r.1.map D.i)),(.int .i64 r.2)]):=by
 unfold oo at hm
 refine aaT Tryz.func231 fun g0 w0 bR=>?_
 refine rs 0 [0,1] 0 ?_
 iterate 8 refine go ?_
 obtain⟨v3,iw,hm⟩:=aa hm
 iterate 4 refine go ?_
 refine wc hm (fun bB hm=>?_) fun bB hm=>?_
 ·exact wk
 ·iterate 9 refine go ?_
  refine wc hm (fun di hm=>?_) fun di hm=>?_
  ·exact wk
  ·iterate 2 refine go ?_
   refine AL.s rfl (aF (ds:=([(1:Int)]:List Int).map D.i) xj (.cons (.r rfl) rfl (En.i.one _) .nil) rfl (by decide)) ?_
   iterate 8 refine go ?_
   obtain⟨kA,av,en⟩:=aa hm
   refine lS 0 av (fun x=>[(0,.d (.sl (a1.map D.i))),(6,.d (.sl (x.1.map D.i))),(19,.d (.int .i64 a2)),(20,.d (.int .i64 x.2))]) (fun x=>[]) (mt 0) ?_
   rintro n1 ⟨s4,s5⟩ av
   obtain⟨dj,hm,av⟩:=aZ av
   dsimp only[kM] at hm
   iterate 4 refine go ?_
   refine wc hm (fun mq hm=>?_) fun mq hm=>?_
   ·exact wk
   ·exact wk
instance:CF 231:=⟨Tryz.call231,@BW⟩
end Go.Proofs.YtjdnbobilgamdaaGreatDoor.Ab
