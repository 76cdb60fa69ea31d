/- The functions do what they are in plain Lean. Conditions: none. -/
import Derived.Test.YtjdnbobilgamdaaGreatDoorTg
import Derived.Test.YtjdnbobilgamdaaGreatDoorMi
import Derived.Test.YtjdnbobilgamdaaGreatDoorFf
set_option maxRecDepth 100000
set_option maxHeartbeats 20000000
namespace Go.Proofs.YtjdnbobilgamdaaGreatDoor.Ab
open Go
attribute [local irreducible] bj AL AD AW tE zT lT
theorem vG{n:Nat}{a1:af}{a2:af}{r:A7}(hm:jR n a1 a2=some r):Fn Tryz.prog 123 [(af.e a1),(af.e a2)] (A7.e r):=by
 unfold jR at hm
 refine aaT Tryz.func123 fun g0 w0 bR=>?_
 refine go ?_
 refine AL.s rfl (cW (n:=0) .r rfl rfl rfl) ?_
 refine AL.s rfl (cW (n:=1) .r rfl rfl rfl) ?_
 refine AL.s rfl (bE (n:=2) Iq rfl) ?_
 refine go ?_
 refine rs 0 [2,3,4] 3 ?_
 refine AW.ml [([],[]),([0],[]),([],[]),([1],[]),([],[]),([],[]),([0],[]),([],[]),([1],[]),([],[]),([],[]),([0],[]),([],[]),([1],[]),([],[]),([],[]),([0],[]),([],[]),([1],[]),([],[]),([],[]),([0],[]),([],[]),([1],[]),([],[]),([],[]),([0],[]),([],[]),([1],[]),([],[]),([],[]),([0],[]),([],[]),([1],[]),([],[]),([],[]),([2],[2])] mo (by decide+kernel) ?_
 iterate 4 refine go ?_
 obtain⟨v3,iw,hm⟩:=aa hm
 refine AD.s (ws:=[]) rfl rfl (fun _ _ hH=>cb Tryz.call170 .r (.cons (.r rfl) (.cons (.r rfl) .nil)) (qX iw)) ?_
 iterate 4 refine go ?_
 obtain⟨v4,ir,hm⟩:=aa hm
 refine AD.s (ws:=[]) rfl rfl (fun _ _ hH=>cb Tryz.call171 .r (.cons (.r rfl) (.cons (.r rfl) .nil)) (qc ir)) ?_
 iterate 4 refine go ?_
 obtain⟨v5,jL,hm⟩:=aa hm
 refine AD.s (ws:=[]) rfl rfl (fun _ _ hH=>cb Tryz.call172 .r (.cons (.r rfl) (.cons (.r rfl) .nil)) (qY jL)) ?_
 iterate 4 refine go ?_
 obtain⟨v6,oz,hm⟩:=aa hm
 refine AD.s (ws:=[]) rfl rfl (fun _ _ hH=>cb Tryz.call173 .r (.cons (.r rfl) (.cons (.r rfl) (.cons (.r rfl) (.cons (.r rfl) .nil)))) (jQ oz)) ?_
 iterate 4 refine go ?_
 obtain⟨v7,mE,hm⟩:=aa hm
 refine AD.s (ws:=[]) rfl rfl (fun _ _ hH=>cb Tryz.call173 .r (.cons (.r rfl) (.cons (.r rfl) (.cons (.r rfl) (.cons (.r rfl) .nil)))) (jQ mE)) ?_
 iterate 4 refine go ?_
 obtain⟨v8,oA,hm⟩:=aa hm
 refine AD.s (ws:=[]) rfl rfl (fun _ _ hH=>cb Tryz.call173 .r (.cons (.r rfl) (.cons (.r rfl) (.cons (.r rfl) (.cons (.r rfl) .nil)))) (jQ oA)) ?_
 iterate 4 refine go ?_
 obtain⟨v9,pR,hm⟩:=aa hm
 refine AD.s (ws:=[]) rfl rfl (fun _ _ hH=>cb Tryz.call173 .r (.cons (.r rfl) (.cons (.r rfl) (.cons (.r rfl) (.cons (.r rfl) .nil)))) (jQ pR)) ?_
 refine AD.s (ws:=[]) rfl rfl (fun _ _ hH=>bY Oh (.cons .r rfl rfl rfl rfl (aaR rfl) (.cons .r rfl rfl rfl rfl (aaR rfl) (.cons .r rfl rfl rfl rfl (aaR rfl) (.cons .r rfl rfl rfl rfl (aaR rfl) (.cons .r rfl rfl rfl rfl (aaR rfl) (.cons .r rfl rfl rfl rfl (aaR rfl) (.cons .r rfl rfl rfl rfl (aaR rfl) .nil))))))) rfl rfl) ?_
 iterate 3 refine go ?_
 obtain rfl:=si hm
 exact kg.d (.mS .r rfl rfl rfl K_ .nil) rfl rfl
instance:CF 123:=⟨Tryz.call123,@vG⟩
theorem vH{n:Nat}{a1:af}{a2:af}{r:(A7×Int)}(hm:jS n a1 a2=some r):Fn Tryz.prog 76 [(af.e a1),(af.e a2)] (.gd [(A7.e r.1),(.int .i64 r.2)]):=by
 unfold jS at hm
 refine aaT Tryz.func76 fun g0 w0 bR=>?_
 refine go ?_
 refine AL.s rfl (cW (n:=0) .r rfl rfl rfl) ?_
 refine AL.s rfl (cW (n:=1) .r rfl rfl rfl) ?_
 refine AL.s rfl (bE (n:=2) Iq rfl) ?_
 iterate 5 refine go ?_
 obtain⟨v3,iw,hm⟩:=aa hm
 iterate 4 refine go ?_
 obtain⟨v4,ir,hm⟩:=aa hm
 iterate 4 refine go ?_
 refine wc hm (fun bB hm=>?_) fun bB hm=>?_
 ·refine go ?_
  refine AL.s rfl (mu Oh .nil) ?_
  iterate 4 refine go ?_
  obtain rfl:=si hm
  exact kg.d (.mS .r rfl rfl rfl K_ (.tmp .r .nil)) rfl rfl
 ·iterate 4 refine go ?_
  obtain⟨v5,jL,hm⟩:=aa hm
  iterate 5 refine go ?_
  obtain rfl:=si hm
  exact kg.d (.mS .r rfl rfl rfl K_ (.tmp .r .nil)) rfl rfl
instance:CF 76:=⟨Tryz.call76,@vH⟩
theorem qZ{n:Nat}{a1:tf}{r:ej}(hm:qv n a1=some r):Fn Tryz.prog 126 [(tf.e a1)] (ej.e r):=by
 unfold qv at hm
 refine aaT Tryz.func126 fun g0 w0 bR=>?_
 refine rs 0 [0] 0 ?_
 refine go ?_
 refine AL.s rfl (cW (n:=0) .r rfl rfl rfl) ?_
 refine AL.s rfl (bE (n:=1) JI rfl) ?_
 iterate 2 refine go ?_
 refine AL.s rfl (bE (n:=2) JI rfl) ?_
 iterate 6 refine go ?_
 obtain⟨kA,av,en⟩:=aa hm
 refine lS 0 av (fun x=>[(1,.ptr 0 0),(2,.ptr 1 0),(3,.ptr 2 0),(4,.d (.int .i64 x.1))]) (fun x=>[.row ((tf.e a1).cells.map .d),.row [.d (.int .i64 (0:Int)),.d (.int .i64 (0:Int)),.d (.int .i64 (0:Int)),.d (.int .i64 (0:Int)),.d (.int .i64 (0:Int)),.d (.int .i64 (0:Int)),.d (.int .i64 (0:Int)),.d (.int .i64 (0:Int)),.d (.int .i64 (0:Int)),.d (.int .i64 (0:Int)),.d (.int .i64 (0:Int)),.d (.int .i64 (0:Int)),.d (.int .i64 (0:Int)),.d (.int .i64 (0:Int)),.d (.int .i64 (0:Int)),.d (.int .i64 (0:Int)),.d (.int .i64 (0:Int)),.d (.int .i64 (0:Int)),.d (.int .i64 (0:Int)),.d (.int .i64 (0:Int)),.d (.int .i64 (0:Int)),.d (.int .i64 (0:Int)),.d (.int .i64 (0:Int)),.d (.int .i64 (0:Int)),.d (.int .i64 (0:Int)),.d (.int .i64 (0:Int)),.d (.int .i64 (0:Int)),.d (.int .i64 (0:Int)),.d (.int .i64 (0:Int)),.d (.int .i64 (0:Int)),.d (.int .i64 (0:Int)),.d (.int .i64 (0:Int)),.d (.int .i64 (0:Int)),.d (.int .i64 (0:Int)),.d (.int .i64 (0:Int)),.d (.int .i64 (0:Int)),.d (.int .i64 (0:Int)),.d (.int .i64 (0:Int)),.d (.int .i64 (0:Int)),.d (.int .i64 (0:Int)),.d (.int .i64 (0:Int)),.d (.int .i64 (0:Int))],.row ((ej.e x.2).cells.map .d)]) (mt 3) ?_
 rintro n1 ⟨s2,s3⟩ av
 obtain⟨dj,hm,av⟩:=aZ av
 dsimp only[nR] at hm
 iterate 5 refine go ?_
 refine wc hm (fun bB hm=>?_) fun bB hm=>?_
 ·iterate 7 refine go ?_
  obtain⟨JH,gr,oJ⟩:=aa hm
  refine lS 0 gr (fun x=>[(1,.ptr 0 0),(2,.ptr 1 0),(3,.ptr 2 0),(4,.d (.int .i64 s2)),(5,.d (.int .i64 x.1))]) (fun x=>[.row ((tf.e a1).cells.map .d),.row [.d (.int .i64 (0:Int)),.d (.int .i64 (0:Int)),.d (.int .i64 (0:Int)),.d (.int .i64 (0:Int)),.d (.int .i64 (0:Int)),.d (.int .i64 (0:Int)),.d (.int .i64 (0:Int)),.d (.int .i64 (0:Int)),.d (.int .i64 (0:Int)),.d (.int .i64 (0:Int)),.d (.int .i64 (0:Int)),.d (.int .i64 (0:Int)),.d (.int .i64 (0:Int)),.d (.int .i64 (0:Int)),.d (.int .i64 (0:Int)),.d (.int .i64 (0:Int)),.d (.int .i64 (0:Int)),.d (.int .i64 (0:Int)),.d (.int .i64 (0:Int)),.d (.int .i64 (0:Int)),.d (.int .i64 (0:Int)),.d (.int .i64 (0:Int)),.d (.int .i64 (0:Int)),.d (.int .i64 (0:Int)),.d (.int .i64 (0:Int)),.d (.int .i64 (0:Int)),.d (.int .i64 (0:Int)),.d (.int .i64 (0:Int)),.d (.int .i64 (0:Int)),.d (.int .i64 (0:Int)),.d (.int .i64 (0:Int)),.d (.int .i64 (0:Int)),.d (.int .i64 (0:Int)),.d (.int .i64 (0:Int)),.d (.int .i64 (0:Int)),.d (.int .i64 (0:Int)),.d (.int .i64 (0:Int)),.d (.int .i64 (0:Int)),.d (.int .i64 (0:Int)),.d (.int .i64 (0:Int)),.d (.int .i64 (0:Int)),.d (.int .i64 (0:Int))],.row ((ej.e x.2).cells.map .d)]) (mt 3) ?_
  rintro n2 ⟨s4,s5⟩ gr
  obtain⟨xg,hm,gr⟩:=aZ gr
  dsimp only[nS] at hm
  iterate 5 refine go ?_
  refine wc hm (fun di hm=>?_) fun di hm=>?_
  ·iterate 3 refine go ?_
   refine AW.drawn [([],[]),([],[]),([],[]),([],[]),([],[]),([],[]),([],[]),([0],[]),([],[]),([],[]),([],[]),([],[]),([],[]),([],[]),([0],[]),([],[]),([],[]),([],[]),([2],[2])] mo (by decide+kernel) ?_
   iterate 5 refine go ?_
   obtain⟨v6,oz,hm⟩:=aa hm
   refine AD.s (ws:=[]) rfl rfl (fun _ _ hH=>df (l:=a1.l) (s:=6) .r (.r rfl) oz rfl Tryz.underlying134 ⟨_,rfl,rfl⟩) ?_
   obtain⟨v7,mE,hm⟩:=aa hm
   refine AD.s (ws:=[]) rfl rfl (fun _ _ hH=>df (l:=v6.l) (s:=1) .r (.r rfl) mE rfl Tryz.underlying133 ⟨_,rfl,rfl⟩) ?_
   refine AD.s (ws:=[]) rfl rfl (fun _ _ hH=>kG (X:=(tf.e a1).cells) .r ((hH _ (by simp)).trans rfl) (lJ.ix (f:=D.i) (l:=v6.l) En.i (lJ.ix (f:=A6.e) (l:=a1.l) QS (lJ.root:lJ (tf.e a1).cells 0 _ _) oz) mE) mK) ?_
   iterate 4 refine go ?_
   obtain⟨v8,oA,hm⟩:=aa hm
   refine AD.s (ws:=[]) rfl rfl (fun _ _ hH=>df (l:=a1.l) (s:=6) .r (.r rfl) oA rfl Tryz.underlying134 ⟨_,rfl,rfl⟩) ?_
   obtain⟨v9,pR,hm⟩:=aa hm
   refine AD.s (ws:=[]) rfl rfl (fun _ _ hH=>df (l:=v8.l) (s:=1) .r (.r rfl) pR rfl Tryz.underlying133 ⟨_,rfl,rfl⟩) ?_
   refine AD.s (ws:=[]) rfl rfl (fun _ _ hH=>kG (X:=(tf.e a1).cells) .r ((hH _ (by simp)).trans rfl) (lJ.ix (f:=D.i) (l:=v8.l) En.i (lJ.ix (f:=A6.e) (l:=a1.l) QS (lJ.root:lJ (tf.e a1).cells 0 _ _) oA) pR) mK) ?_
   refine AD.s (ws:=[]) rfl rfl (fun _ _ hH=>od R3 (.cons .r rfl rfl rfl rfl (aaR rfl) (.cons .r rfl rfl rfl rfl (aaR rfl) .nil))) ?_
   obtain⟨v10,lC,hm⟩:=aa hm
   refine AD.s (ws:=[]) rfl rfl (fun _ _ hH=>df (l:=s5.l) (s:=6) .r (.r rfl) lC rfl Tryz.underlying155 ⟨_,rfl,rfl⟩) ?_
   obtain⟨v11,nw,hm⟩:=aa hm
   refine AD.s (ws:=[]) rfl rfl (fun _ _ hH=>df (l:=v10.l) (s:=2) .r (.r rfl) nw rfl Tryz.underlying153 ⟨_,rfl,rfl⟩) ?_
   obtain⟨v12,pc,hm⟩:=aa hm
   obtain⟨qs,xh,hm⟩:=aa hm
   refine AD.s (ws:=[(2,_)]) rfl rfl (fun _ _ hH=>AT (X:=(ej.e s5).cells) (X':=(ej.e qs).cells) .r .r ((hH _ (by simp)).trans rfl) (lJ.ix (f:=ah.e) (l:=v10.l) gv (lJ.ix (f:=A3.e) (l:=s5.l) BT (lJ.root:lJ (ej.e s5).cells 0 _ _) lC) nw) (wz.ix (f:=ah.e) (l:=v10.l) (l':=v12.l) gv (lJ.ix (f:=A3.e) (l:=s5.l) BT (lJ.root:lJ (ej.e s5).cells 0 _ _) lC) (wz.ix (f:=A3.e) (l:=s5.l) (l':=qs.l) BT (lJ.root:lJ (ej.e s5).cells 0 _ _) (wz.root rfl:wz (ej.e s5).cells 0 _ _ (ej.e qs).cells) (ej.zf xh)) (A3.zf pc)) rfl rfl ⟨_,rfl,rfl⟩) ?_
   exact wk
  ·exact wk
 ·refine go ?_
  obtain rfl:=si hm
  obtain rfl:=si av
  replace hm:=en
  try dsimp only at hm
  iterate 5 refine go ?_
  obtain rfl:=si hm
  exact kg.d (.mS .r rfl rfl rfl Oi .nil) rfl rfl
instance:CF 126:=⟨Tryz.call126,@qZ⟩
theorem q7{n:Nat}{r:ej}(hm:nX n=some r):Fn Tryz.prog 78 [] (ej.e r):=by
 unfold nX at hm
 refine aaT Tryz.func78 fun g0 w0 bR=>?_
 refine go ?_
 refine AL.s rfl (bE (n:=0) JI rfl) ?_
 iterate 2 refine go ?_
 refine AL.s rfl (bY pG (.cons .r rfl rfl rfl rfl (aaR rfl) (.cons .r rfl rfl rfl rfl (aaR rfl) (.cons .r rfl rfl rfl rfl (aaR rfl) (.cons .r rfl rfl rfl rfl (aaR rfl) (.cons .r rfl rfl rfl rfl (aaR rfl) (.cons .r rfl rfl rfl rfl (aaR rfl) .nil)))))) rfl rfl) ?_
 refine AL.s rfl (bY pG (.cons .r rfl rfl rfl rfl (aaR rfl) (.cons .r rfl rfl rfl rfl (aaR rfl) (.cons .r rfl rfl rfl rfl (aaR rfl) (.cons .r rfl rfl rfl rfl (aaR rfl) (.cons .r rfl rfl rfl rfl (aaR rfl) (.cons .r rfl rfl rfl rfl (aaR rfl) .nil)))))) rfl rfl) ?_
 refine AL.s rfl (bY pG (.cons .r rfl rfl rfl rfl (aaR rfl) (.cons .r rfl rfl rfl rfl (aaR rfl) (.cons .r rfl rfl rfl rfl (aaR rfl) (.cons .r rfl rfl rfl rfl (aaR rfl) (.cons .r rfl rfl rfl rfl (aaR rfl) (.cons .r rfl rfl rfl rfl (aaR rfl) .nil)))))) rfl rfl) ?_
 refine AL.s rfl (bY pG (.cons .r rfl rfl rfl rfl (aaR rfl) (.cons .r rfl rfl rfl rfl (aaR rfl) (.cons .r rfl rfl rfl rfl (aaR rfl) (.cons .r rfl rfl rfl rfl (aaR rfl) (.cons .r rfl rfl rfl rfl (aaR rfl) (.cons .r rfl rfl rfl rfl (aaR rfl) .nil)))))) rfl rfl) ?_
 refine AL.s rfl (bY pG (.cons .r rfl rfl rfl rfl (aaR rfl) (.cons .r rfl rfl rfl rfl (aaR rfl) (.cons .r rfl rfl rfl rfl (aaR rfl) (.cons .r rfl rfl rfl rfl (aaR rfl) (.cons .r rfl rfl rfl rfl (aaR rfl) (.cons .r rfl rfl rfl rfl (aaR rfl) .nil)))))) rfl rfl) ?_
 refine AL.s rfl (bY pG (.cons .r rfl rfl rfl rfl (aaR rfl) (.cons .r rfl rfl rfl rfl (aaR rfl) (.cons .r rfl rfl rfl rfl (aaR rfl) (.cons .r rfl rfl rfl rfl (aaR rfl) (.cons .r rfl rfl rfl rfl (aaR rfl) (.cons .r rfl rfl rfl rfl (aaR rfl) .nil)))))) rfl rfl) ?_
 refine AL.s rfl (bY pG (.cons .r rfl rfl rfl rfl (aaR rfl) (.cons .r rfl rfl rfl rfl (aaR rfl) (.cons .r rfl rfl rfl rfl (aaR rfl) (.cons .r rfl rfl rfl rfl (aaR rfl) (.cons .r rfl rfl rfl rfl (aaR rfl) (.cons .r rfl rfl rfl rfl (aaR rfl) .nil)))))) rfl rfl) ?_
 refine AL.s rfl (bY N_ (.cons .r rfl rfl rfl rfl (aaR rfl) (.cons .r rfl rfl rfl rfl (aaR rfl) (.cons .r rfl rfl rfl rfl (aaR rfl) (.cons .r rfl rfl rfl rfl (aaR rfl) (.cons .r rfl rfl rfl rfl (aaR rfl) (.cons .r rfl rfl rfl rfl (aaR rfl) (.cons .r rfl rfl rfl rfl (aaR rfl) .nil))))))) rfl rfl) ?_
 obtain⟨v1,SQ,hm⟩:=aa hm
 refine AL.s rfl (cb Tryz.call126 .r (.cons (.r rfl) .nil) (qZ SQ)) ?_
 iterate 3 refine go ?_
 obtain rfl:=si hm
 exact kg.d (.mS .r rfl rfl rfl Oi .nil) rfl rfl
instance:CF 78:=⟨Tryz.call78,@q7⟩
theorem yw{n:Nat}{a1:(List ah)}{r:Bool}(hm:j9 n a1=some r):Fn Tryz.prog 241 [(.sl (a1.map ah.e))] (.bool r):=by
 unfold j9 at hm
 refine aaT Tryz.func241 fun g0 w0 bR=>?_
 refine rs 0 [0] 0 ?_
 iterate 8 refine go ?_
 obtain⟨kA,av,en⟩:=aa hm
 refine lS 0 av (fun x=>[(0,.d (.sl (a1.map ah.e))),(3,.d (.int .i64 x))]) (fun x=>[]) (mt 0) ?_
 rintro n1 s2 av
 obtain⟨dj,hm,av⟩:=aZ av
 dsimp only[fY] at hm
 iterate 7 refine go ?_
 refine wc hm (fun bB hm=>?_) fun bB hm=>?_
 ·iterate 6 refine go ?_
  obtain⟨v3,iw,hm⟩:=aa hm
  iterate 7 refine go ?_
  obtain⟨v4,ir,hm⟩:=aa hm
  refine AL.sF rfl rfl rfl rfl (fun g=>bG (f:=ah.e) (.we (nt g) rfl rfl) (.we (nt g) rfl rfl) (fU (nt g) ir) gv Dp) ?_
  refine AL.sF rfl rfl rfl rfl (fun g=>gP (.we (nt g) rfl) JJ) ?_
  refine AL.sF rfl rfl rfl rfl (fun g=>cU (.we (nt g) rfl) rfl mK) ?_
  refine AL.sF rfl rfl rfl rfl (fun g=>xL (.we (nt g) rfl rfl) (.r rfl)) ?_
  refine AL.s rfl (sv (.r rfl) rfl (fun h=>(.we (nt h) rfl rfl))) ?_
  refine AL.s rfl (al .r) ?_
  refine AL.sF rfl rfl rfl rfl (fun g=>al .r) ?_
  refine AL.sF rfl rfl rfl rfl (fun g=>al .r) ?_
  obtain⟨v5,jL,hm⟩:=aa hm
  refine AL.sF rfl rfl rfl rfl (fun g=>bG (f:=ah.e) (.we (nt g) rfl rfl) (.we (nt g) rfl rfl) (fU (nt g) jL) gv Dp) ?_
  refine AL.sF rfl rfl rfl rfl (fun g=>gP (.we (nt g) rfl) EH) ?_
  refine AL.sF rfl rfl rfl rfl (fun g=>cU (.we (nt g) rfl) rfl mK) ?_
  refine AL.sF rfl rfl rfl rfl (fun g=>uX (.we (nt g) rfl rfl) (.r rfl)) ?_
  refine AL.s rfl (sv (.r rfl) rfl (fun h=>(.we (nt h) rfl rfl))) ?_
  refine AL.s rfl (al .r) ?_
  refine AL.sF rfl rfl rfl rfl (fun g=>al .r) ?_
  refine AL.sF rfl rfl rfl rfl (fun g=>al .r) ?_
  obtain⟨v6,oz,hm⟩:=aa hm
  refine AL.sF rfl rfl rfl rfl (fun g=>bG (f:=ah.e) (.we (nt g) rfl rfl) (.we (nt g) rfl rfl) (fU (nt g) oz) gv Dp) ?_
  refine AL.sF rfl rfl rfl rfl (fun g=>gP (.we (nt g) rfl) EH) ?_
  refine AL.sF rfl rfl rfl rfl (fun g=>cU (.we (nt g) rfl) rfl mK) ?_
  refine AL.sF rfl rfl rfl rfl (fun g=>xL (.we (nt g) rfl rfl) (.r rfl)) ?_
  refine AL.s rfl (sv (.r rfl) rfl (fun h=>(.we (nt h) rfl rfl))) ?_
  refine AL.nil ?_
  refine AW.cond (b:=_) rfl (fun di=>?_) (fun di=>?_)
  ·replace hm:=fU di hm
   refine AW.kz ?_
   refine AL.s rfl (bJ .r) ?_
   refine AL.nil ?_
   refine AW.ret ?_
   refine xG ?_
   refine mj ?_
   refine mj ?_
   exact wk
  ·replace hm:=Ce di hm
   exact wk
 ·exact wk
instance:CF 241:=⟨Tryz.call241,@yw⟩
theorem yx{n:Nat}{a1:ej}{r:Bool}(hm:jX n a1=some r):Fn Tryz.prog 174 [(ej.e a1)] (.bool r):=by
 unfold jX at hm
 refine aaT Tryz.func174 fun g0 w0 bR=>?_
 refine rs 0 [0] 0 ?_
 refine go ?_
 refine AL.s rfl (cW (n:=0) .r rfl rfl rfl) ?_
 iterate 7 refine go ?_
 obtain⟨kA,av,en⟩:=aa hm
 refine lS 0 av (fun x=>[(1,.ptr 0 0),(3,.d (.int .i64 x))]) (fun x=>[.row ((ej.e a1).cells.map .d)]) (mt 1) ?_
 rintro n1 s2 av
 obtain⟨dj,hm,av⟩:=aZ av
 dsimp only[iA] at hm
 iterate 5 refine go ?_
 refine wc hm (fun bB hm=>?_) fun bB hm=>?_
 ·iterate 7 refine go ?_
  obtain⟨JH,gr,oJ⟩:=aa hm
  refine lS 0 gr (fun x=>[(1,.ptr 0 0),(3,.d (.int .i64 s2)),(4,.d (.int .i64 x))]) (fun x=>[.row ((ej.e a1).cells.map .d)]) (mt 1) ?_
  rintro n2 s3 gr
  obtain⟨xg,hm,gr⟩:=aZ gr
  dsimp only[fV] at hm
  iterate 5 refine go ?_
  refine wc hm (fun di hm=>?_) fun di hm=>?_
  ·iterate 6 refine go ?_
   obtain⟨v4,ir,hm⟩:=aa hm
   refine AL.s rfl (df (l:=a1.l) (s:=6) .r (.r rfl) ir rfl Tryz.underlying155 ⟨_,rfl,rfl⟩) ?_
   obtain⟨v5,jL,hm⟩:=aa hm
   refine AL.s rfl (df (l:=v4.l) (s:=2) .r (.r rfl) jL rfl Tryz.underlying153 ⟨_,rfl,rfl⟩) ?_
   refine AL.s rfl (uV (X:=(ej.e a1).cells) .r rfl (lJ.ix (f:=ah.e) (l:=v4.l) gv (lJ.ix (f:=A3.e) (l:=a1.l) BT (lJ.root:lJ (ej.e a1).cells 0 _ _) ir) jL) Oj) ?_
   refine AL.s rfl (aF (ds:=([v5]:List ah).map ah.e) Dp (.cons (.r rfl) rfl (gv.one _) .nil) rfl (by decide)) ?_
   obtain⟨v6,oz,hm⟩:=aa hm
   iterate 3 refine go ?_
   refine wc hm (fun mq hm=>?_) fun mq hm=>?_
   ·exact wk
   ·exact wk
  ·exact wk
 ·exact wk
instance:CF 174:=⟨Tryz.call174,@yx⟩
theorem vI{n:Nat}{a1:ej}{a2:A7}{r:((List ah)×Int)}(hm:gG n a1 a2=some r):Fn Tryz.prog 124 [(ej.e a1),(A7.e a2)] (.gd [(.sl (r.1.map ah.e)),(.int .i64 r.2)]):=by
 unfold gG at hm
 refine aaT Tryz.func124 fun g0 w0 bR=>?_
 refine rs 0 [0,1] 0 ?_
 refine go ?_
 refine AL.s rfl (cW (n:=0) .r rfl rfl rfl) ?_
 refine AL.s rfl (cW (n:=1) .r rfl rfl rfl) ?_
 iterate 6 refine go ?_
 obtain⟨v3,iw,hm⟩:=aa hm
 iterate 3 refine go ?_
 refine wc hm (fun bB hm=>?_) fun bB hm=>?_
 ·iterate 5 refine go ?_
  obtain rfl:=si hm
  exact kg.d (.tmp .r (.tmp .r .nil)) rfl rfl
 ·iterate 9 refine go ?_
  refine AW.mU (n:=2) 6 152 2 rfl rfl (by simp) ?_
  obtain⟨kA,av,en⟩:=aa hm
  refine lS 0 av (fun x=>[(2,.ptr 0 0),(3,.ptr 1 0),(6,.tk 2 (x.1.map ah.e)),(7,.d (.int .i64 x.2))]) (fun x=>[.row ((ej.e a1).cells.map .d),.row [.d (.int .i64 a2.e0),.d (.int .i64 a2.e1),.d (.int .i64 a2.e2),.d (.int .i64 a2.e3),.d (.int .i64 a2.e4),.d (.int .i64 a2.e5),.d (.int .i64 a2.e6)],.tok x.1.length 152 2]) (mt 3) ?_
  rintro n1 ⟨s4,s5⟩ av
  obtain⟨dj,hm,av⟩:=aZ av
  dsimp only[eN] at hm
  iterate 5 refine go ?_
  refine wc hm (fun di hm=>?_) fun di hm=>?_
  ·refine go ?_
   obtain⟨iP,hm,hZ⟩:=aa hm
   refine AW.SG (α:=(List ah)) 0 (fun x=>(.inr x)=iP) (fun x=>[(2,.ptr 0 0),(3,.ptr 1 0),(6,.tk 2 (x.map ah.e)),(7,.d (.int .i64 s5))]) (fun x=>[.row ((ej.e a1).cells.map .d),.row [.d (.int .i64 a2.e0),.d (.int .i64 a2.e1),.d (.int .i64 a2.e2),.d (.int .i64 a2.e3),.d (.int .i64 a2.e4),.d (.int .i64 a2.e5),.d (.int .i64 a2.e6)],.tok x.length 152 2]) (aQ.g0 bR (by simp)) ?_ ?_
   ·skip
    iterate 4 refine go ?_
    obtain⟨v6,oz,hm⟩:=aa hm
    refine AL.s rfl (df (l:=a2.l) (s:=1) .r (.r rfl) oz rfl Tryz.underlying57 ⟨_,rfl,rfl⟩) ?_
    refine AL.s rfl (kG (X:=(A7.e a2).cells) .r rfl (lJ.ix (f:=D.i) (l:=a2.l) En.i (lJ.root:lJ (A7.e a2).cells 0 _ _) oz) mK) ?_
    iterate 3 refine go ?_
    obtain⟨v7,mE,hm⟩:=aa hm
    refine AL.sF rfl rfl rfl rfl (fun g=>df (l:=a2.l) (s:=1) .r (.we (nt g) rfl rfl) (fU (nt g) mE) rfl Tryz.underlying57 ⟨_,rfl,rfl⟩) ?_
    refine AL.sF rfl rfl rfl rfl (fun g=>kG (X:=(A7.e a2).cells) (.we (nt g) rfl) rfl (lJ.ix (f:=D.i) (l:=a2.l) En.i (lJ.root:lJ (A7.e a2).cells 0 _ _) (fU (nt g) mE)) mK) ?_
    iterate 3 refine go ?_
    refine wc hm (fun mq hm=>?_) fun mq hm=>?_
    ·iterate 5 refine go ?_
     obtain rfl:=si hm
     replace hm:=hZ
     try dsimp only at hm
     obtain rfl:=si hm
     obtain rfl:=si av
     replace hm:=en
     try dsimp only at hm
     obtain rfl:=si hm
     exact kg.d (.tmp .r (.tmp .r .nil)) rfl rfl
    ·refine go ?_
     refine rs 0 [2,3,6,7] 3 ?_
     iterate 2 refine go ?_
     obtain⟨v8,oA,hm⟩:=aa hm
     refine AL.s rfl (df (l:=a2.l) (s:=1) .r (.r rfl) oA rfl Tryz.underlying57 ⟨_,rfl,rfl⟩) ?_
     refine AL.s rfl (kG (X:=(A7.e a2).cells) .r rfl (lJ.ix (f:=D.i) (l:=a2.l) En.i (lJ.root:lJ (A7.e a2).cells 0 _ _) oA) mK) ?_
     iterate 2 refine go ?_
     refine wc hm (fun BS hm=>?_) fun BS hm=>?_
     ·refine AW.free ?_
      refine AW.drawn [([],[]),([],[]),([],[]),([],[]),([1],[]),([],[]),([],[]),([],[]),([0],[]),([],[]),([2],[2]),([],[])] mo (by decide+kernel) ?_
      iterate 3 refine go ?_
      obtain⟨v9,pR,hm⟩:=aa hm
      refine AD.s (ws:=[]) rfl rfl (fun _ _ hH=>df (l:=a2.l) (s:=1) .r (.r rfl) pR rfl Tryz.underlying57 ⟨_,rfl,rfl⟩) ?_
      refine AD.s (ws:=[]) rfl rfl (fun _ _ hH=>kG (X:=(A7.e a2).cells) .r ((hH _ (by simp)).trans rfl) (lJ.ix (f:=D.i) (l:=a2.l) En.i (lJ.root:lJ (A7.e a2).cells 0 _ _) pR) mK) ?_
      refine go ?_
      obtain⟨v10,lC,hm⟩:=aa hm
      refine AD.s (ws:=[]) rfl rfl (fun _ _ hH=>df (l:=a1.l) (s:=6) .r (.r rfl) lC rfl Tryz.underlying155 ⟨_,rfl,rfl⟩) ?_
      obtain⟨v11,nw,hm⟩:=aa hm
      refine AD.s (ws:=[]) rfl rfl (fun _ _ hH=>df (l:=v10.l) (s:=2) .r (.r rfl) nw rfl Tryz.underlying153 ⟨_,rfl,rfl⟩) ?_
      refine AD.s (ws:=[]) rfl rfl (fun _ _ hH=>uV (X:=(ej.e a1).cells) .r ((hH _ (by simp)).trans rfl) (lJ.ix (f:=ah.e) (l:=v10.l) gv (lJ.ix (f:=A3.e) (l:=a1.l) BT (lJ.root:lJ (ej.e a1).cells 0 _ _) lC) nw) Oj) ?_
      refine AD.s (ws:=[]) rfl rfl (fun _ _ hH=>aF (ds:=([v11]:List ah).map ah.e) Dp (.cons (.r rfl) rfl (gv.one _) .nil) rfl (by decide)) ?_
      obtain⟨v12,pc,hm⟩:=aa hm
      iterate 3 refine go ?_
      obtain rfl:=si hm
      exact nx rfl (mt 3)
     ·refine go ?_
      obtain rfl:=si hm
      exact nx rfl (mt 3)
   ·rintro Gy rfl
    replace hm:=hZ
    try dsimp only at hm
    iterate 5 refine go ?_
    obtain rfl:=si hm
    exact nx av (mt 3)
  ·refine go ?_
   obtain rfl:=si hm
   obtain rfl:=si av
   replace hm:=en
   try dsimp only at hm
   iterate 6 refine go ?_
   obtain rfl:=si hm
   exact kg.d (.tmp .r (.tmp .r .nil)) rfl rfl
instance:CF 124:=⟨Tryz.call124,@vI⟩
theorem yy{n:Nat}{a1:(List Int)}{r:Bool}(hm:bV n a1=some r):Fn Tryz.prog 245 [(.sl (a1.map D.i))] (.bool r):=by
 unfold bV at hm
 refine aaT Tryz.func245 fun g0 w0 bR=>?_
 refine rs 0 [0] 0 ?_
 iterate 8 refine go ?_
 obtain⟨kA,av,en⟩:=aa hm
 refine lS 0 av (fun x=>[(0,.d (.sl (a1.map D.i))),(3,.d (.int .i64 x))]) (fun x=>[]) (mt 0) ?_
 rintro n1 s2 av
 obtain⟨dj,hm,av⟩:=aZ av
 dsimp only[fX] at hm
 iterate 7 refine go ?_
 refine wc hm (fun bB hm=>?_) fun bB hm=>?_
 ·refine AW.skip ?_
  refine nq ?_
  refine AW.seq ?_
  refine AW.block ?_
  refine AW.kz ?_
  refine AL.s rfl (al .r) ?_
  refine AL.s rfl (al .r) ?_
  obtain⟨v3,iw,hm⟩:=aa hm
  refine AL.s rfl (bG (f:=D.i) (.r rfl) (.r rfl) iw En.i ef) ?_
  refine AL.s rfl (cU .r rfl mK) ?_
  refine AL.s rfl (uX (.r rfl) (.r rfl)) ?_
  refine AL.s rfl (al .r) ?_
  refine AL.sF rfl rfl rfl rfl (fun g=>al .r) ?_
  refine AL.sF rfl rfl rfl rfl (fun g=>al .r) ?_
  obtain⟨v4,ir,hm⟩:=aa hm
  refine AL.sF rfl rfl rfl rfl (fun g=>bG (f:=D.i) (.we (nt g) rfl rfl) (.we (nt g) rfl rfl) (fU (nt g) ir) En.i ef) ?_
  refine AL.sF rfl rfl rfl rfl (fun g=>cU (.we (nt g) rfl) rfl mK) ?_
  refine AL.sF rfl rfl rfl rfl (fun g=>Hx (.we (nt g) rfl rfl) (.r rfl)) ?_
  refine AL.s rfl (sv (.r rfl) rfl (fun h=>(.we (nt h) rfl rfl))) ?_
  refine AL.nil ?_
  refine AW.cond (b:=_) rfl (fun di=>?_) (fun di=>?_)
  ·replace hm:=fU di hm
   refine AW.kz ?_
   refine AL.s rfl (bJ .r) ?_
   refine AL.nil ?_
   refine AW.ret ?_
   refine xG ?_
   refine mj ?_
   refine mj ?_
   exact wk
  ·replace hm:=Ce di hm
   exact wk
 ·exact wk
instance:CF 245:=⟨Tryz.call245,@yy⟩
theorem zH{n:Nat}{a1:(List Int)}{r:(List Int)}(hm:fM n a1=some r):Fn Tryz.prog 288 [(.sl (a1.map D.i))] (.sl (r.map D.i)):=by
 unfold fM at hm
 refine aaT Tryz.func288 fun g0 w0 bR=>?_
 refine rs 0 [0] 0 ?_
 iterate 10 refine go ?_
 obtain⟨kA,av,en⟩:=aa hm
 refine lS 0 av (fun x=>[(0,.d (.sl (a1.map D.i))),(3,.d (.int .i64 x))]) (fun x=>[]) (mt 0) ?_
 rintro n1 s2 av
 obtain⟨dj,hm,av⟩:=aZ av
 dsimp only[jD] at hm
 iterate 8 refine go ?_
 obtain⟨v3,iw,hm⟩:=aa hm
 iterate 5 refine go ?_
 refine wc hm (fun bB hm=>?_) fun bB hm=>?_
 ·exact wk
 ·refine go ?_
  obtain rfl:=si hm
  obtain rfl:=si av
  replace hm:=en
  try dsimp only at hm
  refine go ?_
  refine AL.s rfl (aF (ds:=([]:List Int).map D.i) ef .nil rfl (by decide)) ?_
  iterate 2 refine go ?_
  obtain⟨v4,ir,hm⟩:=aa hm
  refine AL.s rfl (nD (f:=D.i) (.r rfl) ef rfl (.r rfl) En.i ir) ?_
  obtain⟨v5,jL,hm⟩:=aa hm
  refine AL.s rfl (yM (n:=0) (f:=D.i) (l:=([]:List Int)) (l':=v4) ef .r (.r rfl) rfl En.i jL) ?_
  exact wk
instance:CF 288:=⟨Tryz.call288,@zH⟩
theorem q8{n:Nat}{a1:(List Int)}{a2:(List Int)}{r:(List Int)}(hm:j7 n a1 a2=some r):Fn Tryz.prog 246 [(.sl (a1.map D.i)),(.sl (a2.map D.i))] (.sl (r.map D.i)):=by
 unfold j7 at hm
 refine aaT Tryz.func246 fun g0 w0 bR=>?_
 refine rs 0 [0,1] 0 ?_
 iterate 9 refine go ?_
 obtain⟨v3,iw,hm⟩:=aa hm
 refine AL.s rfl (qC (n:=0) (f:=D.i) (.r rfl) ef OZ rfl rfl iw) ?_
 iterate 7 refine go ?_
 obtain⟨kA,av,en⟩:=aa hm
 refine lS 0 av (fun x=>[(0,.d (.sl (a1.map D.i))),(1,.d (.sl (a2.map D.i))),(5,.hs 0 0 x.2.length 1),(6,.d (.int .i64 x.1))]) (fun x=>[.bn (x.2.map D.i) 3 1]) (mt 1) ?_
 rintro n1 ⟨s4,s5⟩ av
 obtain⟨dj,hm,av⟩:=aZ av
 dsimp only[iG] at hm
 iterate 7 refine go ?_
 refine wc hm (fun bB hm=>?_) fun bB hm=>?_
 ·iterate 11 refine go ?_
  obtain⟨JH,gr,oJ⟩:=aa hm
  refine lS 0 gr (fun x=>[(0,.d (.sl (a1.map D.i))),(1,.d (.sl (a2.map D.i))),(5,.hs 0 0 x.2.2.length 1),(6,.d (.int .i64 s4)),(7,.d (.int .i64 x.1)),(8,.d (.int .i64 x.2.1))]) (fun x=>[.bn (x.2.2.map D.i) 3 1]) (mt 1) ?_
  rintro n2 ⟨s6,s7,s8⟩ gr
  obtain⟨xg,hm,gr⟩:=aZ gr
  dsimp only[iH] at hm
  iterate 7 refine go ?_
  refine wc hm (fun di hm=>?_) fun di hm=>?_
  ·iterate 3 refine go ?_
   refine AW.ml [([],[]),([],[]),([],[]),([],[]),([],[]),([0],[]),([0],[]),([],[]),([],[]),([],[]),([],[]),([],[]),([],[]),([],[]),([],[]),([],[]),([],[]),([],[]),([],[])] mo (by decide+kernel) ?_
   iterate 5 refine go ?_
   obtain⟨v9,pR,hm⟩:=aa hm
   refine go ?_
   obtain⟨v10,lC,hm⟩:=aa hm
   refine AD.s (ws:=[]) rfl rfl (fun H' _ hH=>eg (f:=D.i) (fun _=>rfl) .r ((hH _ (by simp)).trans rfl) lC mK) ?_
   refine AD.s (ws:=[]) rfl rfl (fun H' _ hH=>al .r) ?_
   refine AD.s (ws:=[]) rfl rfl (fun H' _ hH=>al .r) ?_
   obtain⟨v11,nw,hm⟩:=aa hm
   iterate 4 refine go ?_
   obtain⟨v12,pc,hm⟩:=aa hm
   iterate 13 refine go ?_
   obtain⟨qs,xh,hm⟩:=aa hm
   refine go ?_
   obtain⟨uH,vu,hm⟩:=aa hm
   refine go ?_
   obtain⟨uM,rH,hm⟩:=aa hm
   refine AL.s rfl (e9 (f:=D.i) (fun _=>rfl) .r (.r rfl) rfl rH ⟨_,rfl,rfl⟩ En.i) ?_
   refine AL.nil ?_
   refine AW.region ?_
   refine AL.s rfl (al .r) ?_
   exact wk
  ·refine go ?_
   obtain rfl:=si hm
   obtain rfl:=si gr
   replace hm:=oJ
   try dsimp only at hm
   iterate 7 refine go ?_
   obtain⟨v17,Gx,hm⟩:=aa hm
   refine go ?_
   obtain⟨ES,yd,hm⟩:=aa hm
   refine AL.s rfl (e9 (f:=D.i) (fun _=>rfl) .r (.r rfl) rfl yd ⟨_,rfl,rfl⟩ En.i) ?_
   refine AL.nil ?_
   refine DP ?_
   refine nq ?_
   refine AW.reset 0 [(0,.d (.sl (a1.map D.i))),(1,.d (.sl (a2.map D.i))),(5,.hs 0 0 ES.length 1),(6,.d (.int .i64 s4))] [.bn (ES.map D.i) 3 1] (aQ.g0 bR (by simp)) ⟨[0],rfl,rfl,rfl,⟨(.d rfl),(.d rfl),(.hs rfl (qB yd).symm),(.d rfl),trivial⟩,trivial,(.bn rfl .nil)⟩ ?_
   refine AW.region ?_
   refine AL.s rfl (al .r) ?_
   refine AL.s rfl (gO (.r rfl) (.r rfl)) ?_
   refine AL.s rfl (bJ .r) ?_
   refine AL.nil ?_
   exact wk
 ·refine go ?_
  obtain rfl:=si hm
  obtain rfl:=si av
  replace hm:=en
  try dsimp only at hm
  refine AW.freeze (f:=D.i) (l:=s5) 0 [5] rfl rfl En.i ⟨rfl,trivial⟩ ?_
  exact wk
instance:CF 246:=⟨Tryz.call246,@q8⟩
theorem vJ{n:Nat}{a1:(List Int)}{r:((List Int)×Int)}(hm:gF n a1=some r):Fn Tryz.prog 247 [(.sl (a1.map D.i))] (.gd [(.sl (r.1.map D.i)),(.int .i64 r.2)]):=by
 unfold gF at hm
 refine aaT Tryz.func247 fun g0 w0 bR=>?_
 iterate 7 refine go ?_
 obtain⟨v2,ui,hm⟩:=aa hm
 iterate 8 refine go ?_
 refine wc hm (fun bB hm=>?_) fun bB hm=>?_
 ·exact wk
 ·exact wk
instance:CF 247:=⟨Tryz.call247,@vJ⟩
theorem B0{n:Nat}{a1:(List Int)}{a2:(List Int)}{r:((List Int)×Int)}(hm:kN n a1 a2=some r):Fn Tryz.prog 242 [(.sl (a1.map D.i)),(.sl (a2.map D.i))] (.gd [(.sl (r.1.map D.i)),(.int .i64 r.2)]):=by
 unfold kN at hm
 refine aaT Tryz.func242 fun g0 w0 bR=>?_
 iterate 7 refine go ?_
 obtain⟨v3,iw,hm⟩:=aa hm
 iterate 4 refine go ?_
 obtain⟨v4,ir,hm⟩:=aa hm
 iterate 4 refine go ?_
 refine wc hm (fun bB hm=>?_) fun bB hm=>?_
 ·exact wk
 ·exact wk
instance:CF 242:=⟨Tryz.call242,@B0⟩
theorem vK{n:Nat}{a1:(List Int)}{a2:(List Int)}{r:Int}(hm:fF n a1 a2=some r):Fn Tryz.prog 248 [(.sl (a1.map D.i)),(.sl (a2.map D.i))] (.int .i64 r):=by
 unfold fF at hm
 refine aaT Tryz.func248 fun g0 w0 bR=>?_
 refine rs 0 [0,1] 0 ?_
 iterate 11 refine go ?_
 refine wc hm (fun bB hm=>?_) fun bB hm=>?_
 ·exact wk
 ·iterate 9 refine go ?_
  obtain⟨kA,av,en⟩:=aa hm
  refine lS 0 av (fun x=>[(0,.d (.sl (a1.map D.i))),(1,.d (.sl (a2.map D.i))),(5,.d (.int .i64 x))]) (fun x=>[]) (mt 0) ?_
  rintro n1 s3 av
  obtain⟨dj,hm,av⟩:=aZ av
  dsimp only[gm] at hm
  iterate 5 refine go ?_
  refine wc hm (fun mq hm=>?_) fun mq hm=>?_
  ·iterate 4 refine go ?_
   refine AW.ml [([],[]),([],[]),([],[]),([],[]),([],[]),([],[]),([],[]),([],[]),([],[])] mo (by decide+kernel) ?_
   iterate 2 refine go ?_
   obtain⟨v4,ir,hm⟩:=aa hm
   iterate 4 refine go ?_
   obtain⟨v5,jL,hm⟩:=aa hm
   iterate 4 refine go ?_
   refine wc hm (fun BS hm=>?_) fun BS hm=>?_
   ·exact wk
   ·refine go ?_
    refine AW.ml [([],[]),([],[]),([],[]),([],[]),([],[]),([],[]),([],[]),([],[]),([],[])] mo (by decide+kernel) ?_
    iterate 2 refine go ?_
    obtain⟨v6,oz,hm⟩:=aa hm
    iterate 4 refine go ?_
    obtain⟨v7,mE,hm⟩:=aa hm
    iterate 4 refine go ?_
    refine wc hm (fun Cu hm=>?_) fun Cu hm=>?_
    ·exact wk
    ·exact wk
  ·exact wk
instance:CF 248:=⟨Tryz.call248,@vK⟩
theorem B1{n:Nat}{a1:(List Int)}{a2:(List Int)}{r:(List Int)}(hm:kO n a1 a2=some r):Fn Tryz.prog 330 [(.sl (a1.map D.i)),(.sl (a2.map D.i))] (.sl (r.map D.i)):=by
 unfold kO at hm
 refine aaT Tryz.func330 fun g0 w0 bR=>?_
 refine rs 0 [0,1] 0 ?_
 iterate 14 refine go ?_
 refine AW.mU (n:=0) 5 3 1 rfl rfl (by simp) ?_
 obtain⟨kA,av,en⟩:=aa hm
 refine lS 0 av (fun x=>[(0,.d (.sl (a1.map D.i))),(1,.d (.sl (a2.map D.i))),(5,.tk 0 (x.1.map D.i)),(6,.d (.int .i64 x.2.1)),(7,.d (.int .i64 x.2.2))]) (fun x=>[.tok x.1.length 3 1]) (mt 1) ?_
 rintro n1 ⟨s3,s4,s5⟩ av
 obtain⟨dj,hm,av⟩:=aZ av
 dsimp only[kP] at hm
 iterate 13 refine go ?_
 refine wc hm (fun bB hm=>?_) fun bB hm=>?_
 ·iterate 3 refine go ?_
  obtain⟨iP,hm,hZ⟩:=aa hm
  refine cS (t:=iP) 0 (fun x=>[(0,.d (.sl (a1.map D.i))),(1,.d (.sl (a2.map D.i))),(5,.tk 0 (s3.map D.i)),(6,.d (.int .i64 x)),(7,.d (.int .i64 s5))]) (fun x=>[.tok s3.length 3 1]) ?_ ?_
  ·skip
   iterate 6 refine go ?_
   refine wc hm (fun di hm=>?_) fun di hm=>?_
   ·iterate 4 refine go ?_
    obtain⟨v6,oz,hm⟩:=aa hm
    iterate 5 refine go ?_
    obtain rfl:=si hm
    exact nx rfl (mt 1)
   ·refine go ?_
    obtain rfl:=si hm
    exact nx rfl (mt 1)
  ·rintro s7 rfl
   replace hm:=hZ
   try dsimp only at hm
   obtain⟨EE,hm,EF⟩:=aa hm
   refine cS (t:=EE) 0 (fun x=>[(0,.d (.sl (a1.map D.i))),(1,.d (.sl (a2.map D.i))),(5,.tk 0 (s3.map D.i)),(6,.d (.int .i64 x)),(7,.d (.int .i64 s5))]) (fun x=>[.tok s3.length 3 1]) ?_ ?_
   ·skip
    iterate 6 refine go ?_
    refine wc hm (fun mq hm=>?_) fun mq hm=>?_
    ·iterate 4 refine go ?_
     obtain⟨v8,oA,hm⟩:=aa hm
     iterate 5 refine go ?_
     obtain rfl:=si hm
     exact nx rfl (mt 1)
    ·refine go ?_
     obtain rfl:=si hm
     exact nx rfl (mt 1)
   ·rintro s9 rfl
    replace hm:=EF
    try dsimp only at hm
    iterate 3 refine go ?_
    obtain⟨v10,lC,hm⟩:=aa hm
    refine go ?_
    refine AL.s rfl (aF (ds:=([v10]:List Int).map D.i) ef (.cons (.r rfl) rfl (En.i.one _) .nil) rfl (by decide)) ?_
    exact wk
 ·refine go ?_
  obtain rfl:=si hm
  obtain rfl:=si av
  replace hm:=en
  try dsimp only at hm
  iterate 3 refine go ?_
  refine AL.s rfl (aF (ds:=([s4]:List Int).map D.i) ef (.cons (.r rfl) rfl (En.i.one _) .nil) rfl (by decide)) ?_
  exact wk
instance:CF 330:=⟨Tryz.call330,@B1⟩
theorem zI{n:Nat}{a1:(List Int)}{r:(List Int)}(hm:mZ n a1=some r):Fn Tryz.prog 331 [(.sl (a1.map D.i))] (.sl (r.map D.i)):=by
 unfold mZ at hm
 refine aaT Tryz.func331 fun g0 w0 bR=>?_
 refine rs 0 [0] 0 ?_
 iterate 6 refine go ?_
 obtain⟨v2,ui,hm⟩:=aa hm
 refine AL.s rfl (qC (n:=0) (f:=D.i) (.r rfl) ef OZ rfl rfl ui) ?_
 iterate 7 refine go ?_
 obtain⟨kA,av,en⟩:=aa hm
 refine lS 0 av (fun x=>[(0,.d (.sl (a1.map D.i))),(3,.hs 0 0 x.2.length 1),(4,.d (.int .i64 x.1))]) (fun x=>[.bn (x.2.map D.i) 3 1]) (mt 1) ?_
 rintro n1 ⟨s3,s4⟩ av
 obtain⟨dj,hm,av⟩:=aZ av
 dsimp only[jE] at hm
 iterate 7 refine go ?_
 refine wc hm (fun bB hm=>?_) fun bB hm=>?_
 ·refine go ?_
  obtain⟨iP,hm,hZ⟩:=aa hm
  refine cS (t:=iP) 0 (fun x=>[(0,.d (.sl (a1.map D.i))),(3,.hs 0 0 x.length 1),(4,.d (.int .i64 s3))]) (fun x=>[.bn (x.map D.i) 3 1]) ?_ ?_
  ·skip
   iterate 6 refine go ?_
   obtain⟨v5,jL,hm⟩:=aa hm
   iterate 2 refine go ?_
   obtain⟨v6,oz,hm⟩:=aa hm
   refine go ?_
   obtain⟨v7,mE,hm⟩:=aa hm
   refine go ?_
   obtain⟨v8,oA,hm⟩:=aa hm
   refine AL.s rfl (e9 (f:=D.i) (fun _=>rfl) .r (.r rfl) rfl oA ⟨_,rfl,rfl⟩ En.i) ?_
   refine AL.nil ?_
   refine AW.reset 0 [(0,.d (.sl (a1.map D.i))),(3,.hs 0 0 v8.length 1),(4,.d (.int .i64 s3))] [.bn (v8.map D.i) 3 1] (aQ.g0 bR (by simp)) ⟨[0],rfl,rfl,rfl,⟨(.d rfl),(.hs rfl (qB oA).symm),(.d rfl),trivial⟩,trivial,(.bn rfl .nil)⟩ ?_
   refine AW.kz ?_
   refine AL.s rfl (al .r) ?_
   refine AL.s rfl (gO (.r rfl) (.r rfl)) ?_
   refine AL.s rfl (al .r) ?_
   refine AL.s rfl (tp (f:=D.i) (.r rfl) ef) ?_
   refine AL.s rfl (uX (.r rfl) (.r rfl)) ?_
   refine AL.s rfl (al .r) ?_
   refine AL.sT rfl rfl rfl rfl (fun g=>al .r) ?_
   refine AL.sT rfl rfl rfl rfl (fun g=>al .r) ?_
   refine AL.sT rfl rfl rfl rfl (fun g=>gO (.we g rfl rfl) (.r rfl)) ?_
   obtain⟨v9,pR,hm⟩:=aa hm
   iterate 2 refine go ?_
   obtain⟨v10,lC,hm⟩:=aa hm
   iterate 4 refine go ?_
   refine wc hm (fun di hm=>?_) fun di hm=>?_
   ·iterate 3 refine go ?_
    obtain⟨v11,nw,hm⟩:=aa hm
    refine go ?_
    obtain⟨v12,pc,hm⟩:=aa hm
    refine AL.s rfl (eg (f:=D.i) (fun _=>rfl) .r rfl pc mK) ?_
    refine AL.s rfl (gO (.r rfl) (.r rfl)) ?_
    obtain⟨qs,xh,hm⟩:=aa hm
    refine go ?_
    obtain⟨uH,vu,hm⟩:=aa hm
    refine AL.s rfl (e9 (f:=D.i) (fun _=>rfl) .r (.r rfl) rfl vu ⟨_,rfl,rfl⟩ En.i) ?_
    refine AL.nil ?_
    refine DP ?_
    exact wk
   ·exact wk
  ·rintro s15 rfl
   replace hm:=hZ
   exact wk
 ·refine go ?_
  obtain rfl:=si hm
  obtain rfl:=si av
  replace hm:=en
  try dsimp only at hm
  refine AW.freeze (f:=D.i) (l:=s4) 0 [3] rfl rfl En.i ⟨rfl,trivial⟩ ?_
  exact wk
instance:CF 331:=⟨Tryz.call331,@zI⟩
theorem zJ{n:Nat}{a1:(List Int)}{a2:(List Int)}{r:(List Int)}(hm:m_ n a1 a2=some r):Fn Tryz.prog 332 [(.sl (a1.map D.i)),(.sl (a2.map D.i))] (.sl (r.map D.i)):=by
 unfold m_ at hm
 refine aaT Tryz.func332 fun g0 w0 bR=>?_
 refine rs 0 [0,1] 0 ?_
 iterate 14 refine go ?_
 refine AW.mU (n:=0) 5 3 1 rfl rfl (by simp) ?_
 obtain⟨kA,av,en⟩:=aa hm
 refine lS 0 av (fun x=>[(0,.d (.sl (a1.map D.i))),(1,.d (.sl (a2.map D.i))),(5,.tk 0 (x.1.map D.i)),(6,.d (.int .i64 x.2.1)),(7,.d (.int .i64 x.2.2))]) (fun x=>[.tok x.1.length 3 1]) (mt 1) ?_
 rintro n1 ⟨s3,s4,s5⟩ av
 obtain⟨dj,hm,av⟩:=aZ av
 dsimp only[jF] at hm
 iterate 7 refine go ?_
 refine wc hm (fun bB hm=>?_) fun bB hm=>?_
 ·iterate 6 refine go ?_
  obtain⟨v6,oz,hm⟩:=aa hm
  iterate 6 refine go ?_
  obtain⟨iP,hm,hZ⟩:=aa hm
  refine cS (t:=iP) 0 (fun x=>[(0,.d (.sl (a1.map D.i))),(1,.d (.sl (a2.map D.i))),(5,.tk 0 (s3.map D.i)),(7,.d (.int .i64 s5)),(8,.d (.int .i64 x))]) (fun x=>[.tok s3.length 3 1]) ?_ ?_
  ·skip
   iterate 6 refine go ?_
   refine wc hm (fun di hm=>?_) fun di hm=>?_
   ·iterate 4 refine go ?_
    obtain⟨v7,mE,hm⟩:=aa hm
    iterate 5 refine go ?_
    obtain rfl:=si hm
    exact nx rfl (mt 1)
   ·refine go ?_
    obtain rfl:=si hm
    exact nx rfl (mt 1)
  ·rintro s8 rfl
   replace hm:=hZ
   try dsimp only at hm
   iterate 3 refine go ?_
   obtain⟨EE,hm,EF⟩:=aa hm
   refine cS (t:=EE) 0 (fun x=>[(0,.d (.sl (a1.map D.i))),(1,.d (.sl (a2.map D.i))),(5,.tk 0 (s3.map D.i)),(6,.d (.int .i64 x.1)),(7,.d (.int .i64 s5)),(8,.d (.int .i64 x.2))]) (fun x=>[.tok s3.length 3 1]) ?_ ?_
   ·skip
    iterate 4 refine go ?_
    refine wc hm (fun mq hm=>?_) fun mq hm=>?_
    ·iterate 8 refine go ?_
     obtain rfl:=si hm
     exact nx rfl (mt 1)
    ·refine go ?_
     obtain rfl:=si hm
     exact nx rfl (mt 1)
   ·rintro⟨s9,kp⟩ rfl
    replace hm:=EF
    try dsimp only at hm
    iterate 3 refine go ?_
    refine AL.s rfl (aF (ds:=([kp]:List Int).map D.i) ef (.cons (.r rfl) rfl (En.i.one _) .nil) rfl (by decide)) ?_
    exact wk
 ·exact wk
instance:CF 332:=⟨Tryz.call332,@zJ⟩
theorem xm{n:Nat}{a1:(List Int)}{a2:(List Int)}{r:((List Int)×(List Int))}(hm:iI n a1 a2=some r):Fn Tryz.prog 287 [(.sl (a1.map D.i)),(.sl (a2.map D.i))] (.gd [(.sl (r.1.map D.i)),(.sl (r.2.map D.i))]):=by
 unfold iI at hm
 refine aaT Tryz.func287 fun g0 w0 bR=>?_
 refine rs 0 [0,1] 0 ?_
 iterate 9 refine go ?_
 obtain⟨kA,av,en⟩:=aa hm
 refine lS 0 av (fun x=>[(0,.d (.sl (a1.map D.i))),(1,.d (.sl (x.1.map D.i))),(6,.d (.int .i64 x.2))]) (fun x=>[]) (mt 0) ?_
 rintro n1 ⟨s3,s4⟩ av
 obtain⟨dj,hm,av⟩:=aZ av
 dsimp only[gS] at hm
 iterate 4 refine go ?_
 obtain⟨v5,jL,hm⟩:=aa hm
 iterate 3 refine go ?_
 refine wc hm (fun bB hm=>?_) fun bB hm=>?_
 ·exact wk
 ·refine go ?_
  obtain rfl:=si hm
  obtain rfl:=si av
  replace hm:=en
  try dsimp only at hm
  iterate 8 refine go ?_
  obtain⟨JH,gr,oJ⟩:=aa hm
  refine lS 0 gr (fun x=>[(0,.d (.sl (x.1.map D.i))),(1,.d (.sl (x.2.1.map D.i))),(6,.d (.int .i64 s4)),(7,.d (.sl (x.2.2.1.map D.i))),(8,.d (.int .i64 x.2.2.2))]) (fun x=>[]) (mt 0) ?_
  rintro n2 ⟨s7,s8,s9,kp⟩ gr
  obtain⟨xg,hm,gr⟩:=aZ gr
  dsimp only[gT] at hm
  iterate 6 refine go ?_
  refine wc hm (fun di hm=>?_) fun di hm=>?_
  ·refine go ?_
   obtain⟨iP,hm,hZ⟩:=aa hm
   refine cS (t:=iP) 0 (fun x=>[(0,.d (.sl (x.1.map D.i))),(1,.d (.sl (x.2.1.map D.i))),(6,.d (.int .i64 s4)),(7,.d (.sl (x.2.2.map D.i))),(8,.d (.int .i64 kp))]) (fun x=>[]) ?_ ?_
   ·skip
    iterate 3 refine go ?_
    obtain⟨v11,nw,hm⟩:=aa hm
    iterate 3 refine go ?_
    obtain⟨v12,pc,hm⟩:=aa hm
    iterate 7 refine go ?_
    obtain⟨qs,xh,hm⟩:=aa hm
    iterate 3 refine go ?_
    refine wc hm (fun mq hm=>?_) fun mq hm=>?_
    ·iterate 3 refine go ?_
     obtain⟨uH,vu,hm⟩:=aa hm
     iterate 2 refine go ?_
     refine AL.s rfl (aF (ds:=([(1:Int)]:List Int).map D.i) ef (.cons (.r rfl) rfl (En.i.one _) .nil) rfl (by decide)) ?_
     exact wk
    ·exact wk
   ·rintro⟨XY,WS,s18⟩ rfl
    replace hm:=hZ
    exact wk
  ·exact wk
instance:CF 287:=⟨Tryz.call287,@xm⟩
theorem B2{n:Nat}{a1:(List Int)}{a2:(List Int)}{r:((List Int)×Int)}(hm:oq n a1 a2=some r):Fn Tryz.prog 243 [(.sl (a1.map D.i)),(.sl (a2.map D.i))] (.gd [(.sl (r.1.map D.i)),(.int .i64 r.2)]):=by
 unfold oq at hm
 refine aaT Tryz.func243 fun g0 w0 bR=>?_
 refine rs 0 [0,1] 0 ?_
 iterate 7 refine go ?_
 obtain⟨v3,iw,hm⟩:=aa hm
 iterate 4 refine go ?_
 obtain⟨v4,ir,hm⟩:=aa hm
 iterate 4 refine go ?_
 refine wc hm (fun bB hm=>?_) fun bB hm=>?_
 ·exact wk
 ·iterate 3 refine go ?_
  obtain⟨kA,av,en⟩:=aa hm
  refine lS 0 av (fun x=>[(0,.d (.sl (x.1.map D.i))),(1,.d (.sl (x.2.map D.i)))]) (fun x=>[]) (mt 0) ?_
  rintro n1 ⟨s5,s6⟩ av
  obtain⟨dj,hm,av⟩:=aZ av
  dsimp only[kQ] at hm
  iterate 6 refine go ?_
  refine wc hm (fun di hm=>?_) fun di hm=>?_
  ·exact wk
  ·refine go ?_
   obtain rfl:=si hm
   obtain rfl:=si av
   replace hm:=en
   try dsimp only at hm
   refine go ?_
   refine AL.s rfl (aF (ds:=([]:List Int).map D.i) ef .nil rfl (by decide)) ?_
   refine go ?_
   obtain⟨v8,oA,hm⟩:=aa hm
   refine AL.s rfl (yM (n:=0) (f:=D.i) (l:=([]:List Int)) (l':=s5) ef .r (.r rfl) rfl En.i oA) ?_
   exact wk
instance:CF 243:=⟨Tryz.call243,@B2⟩
theorem xn{n:Nat}{a1:(List Int)}{a2:(List Int)}{r:((List Int)×(List Int)×Int)}(hm:iJ n a1 a2=some r):Fn Tryz.prog 244 [(.sl (a1.map D.i)),(.sl (a2.map D.i))] (.gd [(.sl (r.1.map D.i)),(.sl (r.2.1.map D.i)),(.int .i64 r.2.2)]):=by
 unfold iJ at hm
 refine aaT Tryz.func244 fun g0 w0 bR=>?_
 iterate 8 refine go ?_
 obtain⟨v3,iw,hm⟩:=aa hm
 iterate 4 refine go ?_
 obtain⟨v4,ir,hm⟩:=aa hm
 iterate 9 refine go ?_
 refine wc hm (fun bB hm=>?_) fun bB hm=>?_
 ·refine rs 0 [] 0 ?_
  exact wk
 ·exact wk
instance:CF 244:=⟨Tryz.call244,@xn⟩
theorem vL{n:Nat}{a1:(List ah)}{r:((List Int)×(List Int)×Int)}(hm:jI n a1=some r):Fn Tryz.prog 175 [(.sl (a1.map ah.e))] (.gd [(.sl (r.1.map D.i)),(.sl (r.2.1.map D.i)),(.int .i64 r.2.2)]):=by
 unfold jI at hm
 refine aaT Tryz.func175 fun g0 w0 bR=>?_
 refine rs 0 [0] 0 ?_
 iterate 8 refine go ?_
 obtain⟨v2,ui,hm⟩:=aa hm
 iterate 3 refine go ?_
 refine wc hm (fun bB hm=>?_) fun bB hm=>?_
 ·exact wk
 ·iterate 2 refine go ?_
  refine AL.s rfl (aF (ds:=([(1:Int)]:List Int).map D.i) ef (.cons (.r rfl) rfl (En.i.one _) .nil) rfl (by decide)) ?_
  refine AL.s rfl (aF (ds:=([(1:Int)]:List Int).map D.i) ef (.cons (.r rfl) rfl (En.i.one _) .nil) rfl (by decide)) ?_
  iterate 8 refine go ?_
  obtain⟨kA,av,en⟩:=aa hm
  refine lS 0 av (fun x=>[(0,.d (.sl (a1.map ah.e))),(5,.d (.sl (x.1.map D.i))),(6,.d (.sl (x.2.1.map D.i))),(7,.d (.int .i64 x.2.2))]) (fun x=>[]) (mt 0) ?_
  rintro n1 ⟨s3,s4,s5⟩ av
  obtain⟨dj,hm,av⟩:=aZ av
  dsimp only[gn] at hm
  iterate 7 refine go ?_
  refine wc hm (fun di hm=>?_) fun di hm=>?_
  ·iterate 7 refine go ?_
   obtain⟨v6,oz,hm⟩:=aa hm
   iterate 3 refine go ?_
   refine AL.s rfl (aF (ds:=([v6.aS]:List Int).map D.i) ef (.cons (.r rfl) rfl (En.i.one _) .nil) rfl (by decide)) ?_
   obtain⟨v7,mE,hm⟩:=aa hm
   iterate 10 refine go ?_
   obtain⟨v8,oA,hm⟩:=aa hm
   iterate 3 refine go ?_
   refine AL.s rfl (aF (ds:=([v8.aU]:List Int).map D.i) ef (.cons (.r rfl) rfl (En.i.one _) .nil) rfl (by decide)) ?_
   exact wk
  ·refine go ?_
   obtain rfl:=si hm
   obtain rfl:=si av
   replace hm:=en
   try dsimp only at hm
   iterate 3 refine go ?_
   obtain⟨v10,lC,hm⟩:=aa hm
   iterate 10 refine go ?_
   obtain⟨v11,nw,hm⟩:=aa hm
   iterate 7 refine go ?_
   refine rs 0 [5,6,8] 0 ?_
   exact wk
instance:CF 175:=⟨Tryz.call175,@vL⟩
end Go.Proofs.YtjdnbobilgamdaaGreatDoor.Ab
