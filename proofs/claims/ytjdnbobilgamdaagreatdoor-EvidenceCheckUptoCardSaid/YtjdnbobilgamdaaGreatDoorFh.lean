/- The functions do what they are in plain Lean. Conditions: none. -/
import Derived.Test.YtjdnbobilgamdaaGreatDoorTg
import Derived.Test.YtjdnbobilgamdaaGreatDoorMi
import Derived.Test.YtjdnbobilgamdaaGreatDoorFg
set_option maxRecDepth 100000
set_option maxHeartbeats 20000000
namespace Go.Proofs.YtjdnbobilgamdaaGreatDoor.Ab
open Go
attribute [local irreducible] bj AL AD AW tE zT lT
theorem yz{n:Nat}{a1:(List Int)}{a2:Int}{r:((List Int)×Int)}(hm:j8 n a1 a2=some r):Fn Tryz.prog 176 [(.sl (a1.map D.i)),(.int .i64 a2)] (.gd [(.sl (r.1.map D.i)),(.int .i64 r.2)]):=by
 unfold j8 at hm
 refine aaT Tryz.func176 fun g0 w0 bR=>?_
 refine rs 0 [0,1] 0 ?_
 iterate 8 refine go ?_
 obtain⟨v3,iw,hm⟩:=aa hm
 iterate 4 refine go ?_
 refine wc hm (fun bB hm=>?_) fun bB hm=>?_
 ·exact wk
 ·iterate 9 refine go ?_
  refine wc hm (fun di hm=>?_) fun di hm=>?_
  ·exact wk
  ·iterate 2 refine go ?_
   refine AL.s rfl (aF (ds:=([(1:Int)]:List Int).map D.i) ef (.cons (.r rfl) rfl (En.i.one _) .nil) rfl (by decide)) ?_
   iterate 7 refine go ?_
   obtain⟨kA,av,en⟩:=aa hm
   refine lS 0 av (fun x=>[(0,.d (.sl (a1.map D.i))),(1,.d (.int .i64 a2)),(6,.d (.sl (x.1.map D.i))),(7,.d (.int .i64 x.2))]) (fun x=>[]) (mt 0) ?_
   rintro n1 ⟨s4,s5⟩ av
   obtain⟨dj,hm,av⟩:=aZ av
   dsimp only[iK] at hm
   iterate 6 refine go ?_
   refine wc hm (fun mq hm=>?_) fun mq hm=>?_
   ·exact wk
   ·exact wk
instance:CF 176:=⟨Tryz.call176,@yz⟩
theorem zK{n:Nat}{a1:(List Int)}{r:Int}(hm:lv n a1=some r):Fn Tryz.prog 177 [(.sl (a1.map D.i))] (.int .i64 r):=by
 unfold lv at hm
 refine aaT Tryz.func177 fun g0 w0 bR=>?_
 refine rs 0 [0] 0 ?_
 iterate 6 refine go ?_
 obtain⟨v2,ui,hm⟩:=aa hm
 iterate 8 refine go ?_
 refine wc hm (fun bB hm=>?_) fun bB hm=>?_
 ·exact wk
 ·iterate 14 refine go ?_
  obtain⟨v3,iw,hm⟩:=aa hm
  iterate 5 refine go ?_
  obtain⟨kA,av,en⟩:=aa hm
  refine lS 0 av (fun x=>[(3,.d (.int .i64 x.1)),(4,.d (.int .i64 x.2))]) (fun x=>[]) (mt 0) ?_
  rintro n1 ⟨s4,s5⟩ av
  obtain⟨dj,hm,av⟩:=aZ av
  dsimp only[jG] at hm
  iterate 5 refine go ?_
  refine wc hm (fun di hm=>?_) fun di hm=>?_
  ·exact wk
  ·exact wk
instance:CF 177:=⟨Tryz.call177,@zK⟩
theorem yA{n:Nat}{a1:(List Int)}{a2:Int}{r:((List Int)×Int)}(hm:fR n a1 a2=some r):Fn Tryz.prog 178 [(.sl (a1.map D.i)),(.int .i64 a2)] (.gd [(.sl (r.1.map D.i)),(.int .i64 r.2)]):=by
 unfold fR at hm
 refine aaT Tryz.func178 fun g0 w0 bR=>?_
 iterate 8 refine go ?_
 obtain⟨v3,iw,hm⟩:=aa hm
 iterate 4 refine go ?_
 refine wc hm (fun bB hm=>?_) fun bB hm=>?_
 ·exact wk
 ·refine rs 0 [0,1] 0 ?_
  iterate 9 refine go ?_
  refine wc hm (fun di hm=>?_) fun di hm=>?_
  ·exact wk
  ·refine go ?_
   refine AW.free ?_
   refine AW.free ?_
   refine AW.ml [([],[]),([],[]),([],[0]),([],[]),([],[]),([],[]),([],[]),([],[]),([],[]),([0],[0,1]),([],[])] mo (by decide+kernel) ?_
   refine go ?_
   obtain⟨v4,ir,hm⟩:=aa hm
   refine go ?_
   obtain⟨v5,jL,hm⟩:=aa hm
   refine AD.s (ws:=[(0,_)]) rfl rfl (fun _ _ hH=>E9 (res:=0) (f:=D.i) (.r rfl) ef OZ rfl ((hH _ (by simp)).trans rfl) jL) ?_
   iterate 2 refine go ?_
   obtain⟨v6,oz,hm⟩:=aa hm
   refine go ?_
   obtain⟨v7,mE,hm⟩:=aa hm
   refine AD.s (ws:=[]) rfl rfl (fun _ _ hH=>IP (.r rfl) (.r rfl) mE) ?_
   refine AD.s (ws:=[]) rfl rfl (fun _ _ hH=>aF (ds:=([v7]:List Int).map D.i) ef (.cons (.r rfl) rfl (En.i.one _) .nil) rfl (by decide)) ?_
   obtain⟨v8,oA,hm⟩:=aa hm
   refine AD.s (ws:=[]) rfl rfl (fun _ _ hH=>cb Tryz.call246 .r (.cons (.r rfl) (.cons (.r rfl) .nil)) (q8 oA)) ?_
   obtain⟨v9,pR,hm⟩:=aa hm
   refine AD.s (ws:=[(0,_),(1,_)]) rfl rfl (fun _ _ hH=>wu (res:=1) (f:=D.i) (l:=v5) (l':=v8) ef .r (.r rfl) ((hH _ (by simp)).trans rfl) rfl ((hH _ (by simp)).trans rfl) En.i pR) ?_
   iterate 2 refine go ?_
   refine AW.freeze (f:=D.i) (l:=v9) 1 [6,27] rfl rfl En.i ⟨rfl,rfl,trivial⟩ ?_
   exact wk
instance:CF 178:=⟨Tryz.call178,@yA⟩
theorem vM{n:Nat}{a1:(List Int)}{a2:(List Int)}{r:Int}(hm:jC n a1 a2=some r):Fn Tryz.prog 179 [(.sl (a1.map D.i)),(.sl (a2.map D.i))] (.int .i64 r):=by
 unfold jC at hm
 refine aaT Tryz.func179 fun g0 w0 bR=>?_
 iterate 6 refine go ?_
 obtain⟨v3,iw,hm⟩:=aa hm
 iterate 4 refine go ?_
 obtain⟨v4,ir,hm⟩:=aa hm
 iterate 4 refine go ?_
 refine wc hm (fun bB hm=>?_) fun bB hm=>?_
 ·exact wk
 ·exact wk
instance:CF 179:=⟨Tryz.call179,@vM⟩
theorem xo{n:Nat}{a1:(List ah)}{r:(Int×Int)}(hm:kS n a1=some r):Fn Tryz.prog 125 [(.sl (a1.map ah.e))] (.gd [(.int .i64 r.1),(.int .i64 r.2)]):=by
 unfold kS at hm
 refine aaT Tryz.func125 fun g0 w0 bR=>?_
 refine rs 0 [0] 0 ?_
 iterate 6 refine go ?_
 obtain⟨v2,ui,hm⟩:=aa hm
 iterate 14 refine go ?_
 refine wc hm (fun bB hm=>?_) fun bB hm=>?_
 ·exact wk
 ·iterate 3 refine go ?_
  obtain⟨v3,iw,hm⟩:=aa hm
  iterate 9 refine go ?_
  obtain⟨v4,ir,hm⟩:=aa hm
  iterate 9 refine go ?_
  obtain⟨v5,jL,hm⟩:=aa hm
  iterate 2 refine go ?_
  obtain⟨v6,oz,hm⟩:=aa hm
  iterate 10 refine go ?_
  obtain⟨iP,hm,hZ⟩:=aa hm
  refine cS (t:=iP) 0 (fun x=>[(11,.d (.int .i64 (IntKind.i64.wrap (v5-v6)))),(12,.d (.sl (x.1.map D.i))),(13,.d (.sl (x.2.map D.i)))]) (fun x=>[]) ?_ ?_
  ·skip
   refine rs 0 [7,9,11,12,13] 0 ?_
   iterate 4 refine go ?_
   refine wc hm (fun di hm=>?_) fun di hm=>?_
   ·exact wk
   ·exact wk
  ·rintro⟨s9,kp⟩ rfl
   replace hm:=hZ
   try dsimp only at hm
   obtain⟨EE,hm,EF⟩:=aa hm
   refine cS (t:=EE) 0 (fun x=>[(11,.d (.int .i64 x))]) (fun x=>[]) ?_ ?_
   ·skip
    iterate 3 refine go ?_
    obtain⟨v11,nw,hm⟩:=aa hm
    iterate 3 refine go ?_
    refine wc hm (fun mq hm=>?_) fun mq hm=>?_
    ·iterate 5 refine go ?_
     obtain rfl:=si hm
     exact nx rfl (mt 0)
    ·refine go ?_
     obtain rfl:=si hm
     exact nx rfl (mt 0)
   ·rintro QT rfl
    replace hm:=EF
    exact wk
instance:CF 125:=⟨Tryz.call125,@xo⟩
theorem qd{n:Nat}{a1:ej}{a2:A7}{r:(Int×Int)}(hm:kT n a1 a2=some r):Fn Tryz.prog 77 [(ej.e a1),(A7.e a2)] (.gd [(.int .i64 r.1),(.int .i64 r.2)]):=by
 unfold kT at hm
 refine aaT Tryz.func77 fun g0 w0 bR=>?_
 refine go ?_
 refine AL.s rfl (cW (n:=0) .r rfl rfl rfl) ?_
 refine AL.s rfl (cW (n:=1) .r rfl rfl rfl) ?_
 iterate 6 refine go ?_
 obtain⟨v3,iw,hm⟩:=aa hm
 iterate 12 refine go ?_
 refine wc hm (fun bB hm=>?_) fun bB hm=>?_
 ·exact wk
 ·exact wk
instance:CF 77:=⟨Tryz.call77,@qd⟩
theorem yB{n:Nat}{a1:(List af)}{a2:Int}{a3:Int}{r:(A7×Int×Bool)}(hm:nY n a1 a2 a3=some r):Fn Tryz.prog 52 [(.sl (a1.map af.e)),(.int .i64 a2),(.int .i64 a3)] (.gd [(A7.e r.1),(.int .i64 r.2.1),(.bool r.2.2)]):=by
 unfold nY at hm
 refine aaT Tryz.func52 fun g0 w0 bR=>?_
 refine rs 0 [0,1,2] 0 ?_
 refine go ?_
 refine AL.s rfl (bE (n:=0) Iq rfl) ?_
 iterate 6 refine go ?_
 obtain⟨v4,ir,hm⟩:=aa hm
 iterate 4 refine go ?_
 refine AL.s rfl (bE (n:=1) Ip rfl) ?_
 iterate 6 refine go ?_
 obtain⟨v5,jL,hm⟩:=aa hm
 iterate 4 refine go ?_
 refine AL.s rfl (bE (n:=2) Ip rfl) ?_
 iterate 12 refine go ?_
 refine wc hm (fun bB hm=>?_) fun bB hm=>?_
 ·refine go ?_
  refine AL.s rfl (mu Oh .nil) ?_
  iterate 5 refine go ?_
  obtain rfl:=si hm
  exact kg.d (.mS .r rfl rfl rfl K_ (.tmp .r (.tmp .r .nil))) rfl rfl
 ·iterate 4 refine go ?_
  obtain⟨v6,oz,hm⟩:=aa hm
  iterate 4 refine go ?_
  refine AL.s rfl (bE (n:=3) Iq rfl) ?_
  iterate 3 refine go ?_
  refine AW.ml [([],[]),([3],[]),([],[]),([],[]),([],[]),([],[]),([],[]),([],[])] mo (by decide+kernel) ?_
  obtain⟨v7,mE,hm⟩:=aa hm
  refine AD.s (ws:=[]) rfl rfl (fun _ _ hH=>cb Tryz.call78 .r .nil (q7 mE)) ?_
  refine go ?_
  obtain⟨v8,oA,hm⟩:=aa hm
  refine AD.s (ws:=[]) rfl rfl (fun _ _ hH=>cb Tryz.call77 .r (.cons (.r rfl) (.cons (.r rfl) .nil)) (qd oA)) ?_
  iterate 6 refine go ?_
  refine rs 0 [6,13,15] 4 ?_
  iterate 8 refine go ?_
  obtain rfl:=si hm
  exact kg.d (.mS .r rfl rfl rfl K_ (.tmp .r (.tmp .r .nil))) rfl rfl
instance:CF 52:=⟨Tryz.call52,@yB⟩
theorem yC{n:Nat}{a1:(List af)}{a2:(List ae)}{a3:aB}{r:Bool}(hm:mg n a1 a2 a3=some r):Fn Tryz.prog 22 [(.sl (a1.map af.e)),(.sl (a2.map ae.e)),(aB.e a3)] (.bool r):=by
 unfold mg at hm
 refine aaT Tryz.func22 fun g0 w0 bR=>?_
 refine rs 0 [0,1,2] 0 ?_
 refine go ?_
 refine AL.s rfl (cW (n:=0) .r rfl rfl rfl) ?_
 iterate 10 refine go ?_
 refine wc hm (fun bB hm=>?_) fun bB hm=>?_
 ·exact wk
 ·iterate 6 refine go ?_
  refine wc hm (fun di hm=>?_) fun di hm=>?_
  ·iterate 6 refine go ?_
   obtain⟨v4,ir,hm⟩:=aa hm
   iterate 4 refine go ?_
   refine AL.sT rfl rfl rfl rfl (fun g=>mu Oh .nil) ?_
   refine AL.sT rfl rfl rfl rfl (fun g=>wx (a:=a3.bD) (b:=(⟨(0:Int),(0:Int),(0:Int),(0:Int),(0:Int),(0:Int),(0:Int)⟩:A7)) WN (.we g rfl rfl) (.we g rfl rfl)) ?_
   exact wk
  ·iterate 7 refine go ?_
   obtain⟨v5,jL,hm⟩:=aa hm
   iterate 5 refine go ?_
   refine AL.s rfl (bE (n:=1) Iq rfl) ?_
   iterate 10 refine go ?_
   refine AL.sT rfl rfl rfl rfl (fun g=>wx (a:=v5.1) (b:=a3.bD) WN (.we g rfl rfl) (.we g rfl rfl)) ?_
   exact wk
instance:CF 22:=⟨Tryz.call22,@yC⟩
theorem q_{n:Nat}{a1:(List af)}{a2:(List ae)}{a3:Int}{a4:Int}{a5:(List aB)}{r:Int}(hm:ke n a1 a2 a3 a4 a5=some r):Fn Tryz.prog 9 [(.sl (a1.map af.e)),(.sl (a2.map ae.e)),(.int .i64 a3),(.int .i64 a4),(.sl (a5.map aB.e))] (.int .i64 r):=by
 unfold ke at hm
 refine aaT Tryz.func9 fun g0 w0 bR=>?_
 refine rs 0 [0,1,2,3,4] 0 ?_
 iterate 8 refine go ?_
 obtain⟨kA,av,en⟩:=aa hm
 refine lS 0 av (fun x=>[(0,.d (.sl (a1.map af.e))),(1,.d (.sl (a2.map ae.e))),(2,.d (.int .i64 a3)),(3,.d (.int .i64 a4)),(4,.d (.sl (a5.map aB.e))),(11,.d (.int .i64 x))]) (fun x=>[]) (mt 0) ?_
 rintro n1 s6 av
 obtain⟨dj,hm,av⟩:=aZ av
 dsimp only[eX] at hm
 iterate 7 refine go ?_
 refine wc hm (fun bB hm=>?_) fun bB hm=>?_
 ·iterate 3 refine go ?_
  refine AW.free ?_
  refine AW.ml [([],[]),([],[]),([],[]),([],[]),([],[]),([],[]),([],[]),([],[]),([],[]),([],[]),([],[]),([],[]),([],[0]),([0],[0]),([],[])] mo (by decide+kernel) ?_
  iterate 2 refine go ?_
  obtain⟨v7,mE,hm⟩:=aa hm
  refine AD.s (ws:=[]) rfl rfl (fun _ _ hH=>nD (f:=af.e) (.r rfl) QV rfl (.r rfl) oE mE) ?_
  iterate 2 refine go ?_
  obtain⟨v8,oA,hm⟩:=aa hm
  refine AD.s (ws:=[]) rfl rfl (fun H' _ hH=>bG (f:=af.e) (.r rfl) (.r rfl) oA oE QV) ?_
  refine AD.s (ws:=[]) rfl rfl (fun H' _ hH=>gP .r Ol) ?_
  refine AD.s (ws:=[]) rfl rfl (fun H' _ hH=>cU .r rfl mK) ?_
  obtain⟨v9,pR,hm⟩:=aa hm
  refine AD.s (ws:=[]) rfl rfl (fun H' _ hH=>cb Tryz.call19 .r (.cons (.r rfl) (.cons (.r rfl) .nil)) (rY pR)) ?_
  refine AD.s (ws:=[]) rfl rfl (fun H' _ hH=>al .r) ?_
  refine AD.s (ws:=[]) rfl rfl (fun H' _ hH=>sB .r rfl) ?_
  refine AD.s (ws:=[]) rfl rfl (fun H' _ hH=>sB .r rfl) ?_
  refine AD.s (ws:=[(0,_)]) rfl rfl (fun H' _ hH=>Ks Ip ((hH _ (by simp)).trans rfl)) ?_
  refine AD.s (ws:=[(0,_)]) rfl rfl (fun H' _ hH=>se .r .r ((hH _ (by simp)).trans rfl) rfl rfl ⟨_,rfl,rfl⟩ rfl (aaR rfl)) ?_
  refine AD.s (ws:=[]) rfl rfl (fun H' _ hH=>bJ .r) ?_
  refine AD.nil ?_
  refine AW.kz ?_
  refine AL.s rfl (al .r) ?_
  refine AL.s rfl (al .r) ?_
  refine AL.sF rfl rfl rfl rfl (fun g=>al .r) ?_
  refine AL.sF rfl rfl rfl rfl (fun g=>al .r) ?_
  obtain⟨v10,lC,hm⟩:=aa hm
  refine AL.sF rfl rfl rfl rfl (fun g=>bG (f:=af.e) (.we (nt g) rfl rfl) (.we (nt g) rfl rfl) (fU (nt g) lC) oE QV) ?_
  refine AL.sF rfl rfl rfl rfl (fun g=>Au (.we (nt g) rfl) rfl QU) ?_
  obtain⟨v11,nw,hm⟩:=aa hm
  refine go ?_
  refine AL.sF rfl rfl rfl rfl (fun g=>xK (.we (nt g) rfl rfl)) ?_
  refine AL.s rfl (sv (.r rfl) rfl (fun h=>(.we (nt h) rfl rfl))) ?_
  refine AL.nil ?_
  refine wc hm (fun di hm=>?_) fun di hm=>?_
  ·iterate 4 refine go ?_
   obtain rfl:=si hm
   obtain rfl:=si av
   replace hm:=en
   try dsimp only at hm
   obtain rfl:=si hm
   exact ed rfl
  ·iterate 6 refine go ?_
   obtain rfl:=si hm
   exact nx av (mt 0)
 ·refine go ?_
  obtain rfl:=si hm
  obtain rfl:=si av
  replace hm:=en
  try dsimp only at hm
  iterate 3 refine go ?_
  obtain⟨v12,pc,hm⟩:=aa hm
  iterate 3 refine go ?_
  refine wc hm (fun mq hm=>?_) fun mq hm=>?_
  ·iterate 4 refine go ?_
   obtain rfl:=si hm
   exact ed rfl
  ·iterate 12 refine go ?_
   refine wc hm (fun BS hm=>?_) fun BS hm=>?_
   ·refine rs 0 [] 0 ?_
    iterate 4 refine go ?_
    obtain rfl:=si hm
    exact ed rfl
   ·iterate 6 refine go ?_
    obtain⟨JH,gr,oJ⟩:=aa hm
    refine lS 0 gr (fun x=>[(0,.d (.sl (a1.map af.e))),(1,.d (.sl (a2.map ae.e))),(2,.d (.int .i64 x.1)),(3,.d (.int .i64 a4)),(4,.d (.sl (a5.map aB.e))),(14,.d (.int .i64 x.2))]) (fun x=>[]) (mt 0) ?_
    rintro n2 ⟨Gy,K8⟩ gr
    obtain⟨xg,hm,gr⟩:=aZ gr
    dsimp only[gb] at hm
    iterate 7 refine go ?_
    refine wc hm (fun Cu hm=>?_) fun Cu hm=>?_
    ·refine AW.skip ?_
     refine nq ?_
     refine AW.seq ?_
     refine AW.block ?_
     refine AW.seq ?_
     refine AW.kz ?_
     refine AL.s rfl (al .r) ?_
     refine AL.s rfl (al .r) ?_
     obtain⟨uM,rH,hm⟩:=aa hm
     refine AL.s rfl (bG (f:=aB.e) (.r rfl) (.r rfl) rH lG Ir) ?_
     refine AL.s rfl (gP .r Om) ?_
     refine AL.s rfl (cU .r rfl mK) ?_
     refine AL.s rfl (al .r) ?_
     refine AL.s rfl (xN (.r rfl) (.r rfl)) ?_
     refine AL.s rfl (al .r) ?_
     refine AL.sF rfl rfl rfl rfl (fun g=>al .r) ?_
     refine AL.sF rfl rfl rfl rfl (fun g=>al .r) ?_
     refine AL.sF rfl rfl rfl rfl (fun g=>al .r) ?_
     refine AL.sF rfl rfl rfl rfl (fun g=>al .r) ?_
     obtain⟨xB,zy,hm⟩:=aa hm
     refine AL.sF rfl rfl rfl rfl (fun g=>bG (f:=aB.e) (.we (nt g) rfl rfl) (.we (nt g) rfl rfl) (fU (nt g) zy) lG Ir) ?_
     refine AL.sF rfl rfl rfl rfl (fun g=>Au (.we (nt g) rfl) rfl W0) ?_
     obtain⟨v17,Gx,hm⟩:=aa hm
     refine go ?_
     refine AL.sF rfl rfl rfl rfl (fun g=>xK (.we (nt g) rfl rfl)) ?_
     refine AL.s rfl (sv (.r rfl) rfl (fun h=>(.we (nt h) rfl rfl))) ?_
     refine AL.nil ?_
     refine wc hm (fun QQ hm=>?_) fun QQ hm=>?_
     ·iterate 4 refine go ?_
      obtain rfl:=si hm
      obtain rfl:=si gr
      replace hm:=oJ
      try dsimp only at hm
      obtain rfl:=si hm
      exact ed rfl
     ·iterate 4 refine go ?_
      obtain⟨ES,yd,hm⟩:=aa hm
      iterate 10 refine go ?_
      obtain rfl:=si hm
      exact nx gr (mt 0)
    ·refine go ?_
     obtain rfl:=si hm
     obtain rfl:=si gr
     replace hm:=oJ
     try dsimp only at hm
     iterate 6 refine go ?_
     refine wc hm (fun N8 hm=>?_) fun N8 hm=>?_
     ·iterate 4 refine go ?_
      obtain rfl:=si hm
      exact ed rfl
     ·iterate 5 refine go ?_
      obtain rfl:=si hm
      exact ed rfl
instance:CF 9:=⟨Tryz.call9,@q_⟩
theorem B3{n:Nat}{a1:af}{r:Bool}(hm:oF n a1=some r):Fn Tryz.prog 12 [(af.e a1)] (.bool r):=by
 unfold oF at hm
 refine aaT Tryz.func12 fun g0 w0 bR=>?_
 refine rs 0 [0] 0 ?_
 refine go ?_
 refine AL.s rfl (cW (n:=0) .r rfl rfl rfl) ?_
 iterate 2 refine go ?_
 refine AW.free ?_
 refine AW.free ?_
 refine AW.free ?_
 refine AW.free ?_
 refine AW.free ?_
 refine AW.ml [([],[]),([0],[]),([],[]),([],[]),([0],[]),([],[1]),([],[]),([0],[]),([1],[1]),([],[]),([0],[]),([1],[1]),([],[]),([0],[]),([1],[1]),([],[]),([0],[]),([1],[1]),([],[])] mo (by decide+kernel) ?_
 iterate 2 refine go ?_
 refine AD.s (ws:=[]) rfl rfl (fun _ _ hH=>aF (ds:=([a1.aM]:List (List UInt8)).map D.str) Og (.cons (.r rfl) rfl (En.str.one _) .nil) rfl (by decide)) ?_
 iterate 2 refine go ?_
 obtain⟨v2,ui,hm⟩:=aa hm
 refine AD.s (ws:=[(1,_)]) rfl rfl (fun _ _ hH=>oX (res:=1) (f:=D.str) (l:=([a1.aM]:List (List UInt8))) (l':=a1.bf) Og .r (.r rfl) ((hH _ (by simp)).trans rfl) En.str ui) ?_
 iterate 2 refine go ?_
 obtain⟨v3,iw,hm⟩:=aa hm
 iterate 3 refine go ?_
 obtain⟨v4,ir,hm⟩:=aa hm
 iterate 3 refine go ?_
 obtain⟨v5,jL,hm⟩:=aa hm
 iterate 3 refine go ?_
 obtain⟨v6,oz,hm⟩:=aa hm
 iterate 11 refine go ?_
 obtain⟨kA,av,en⟩:=aa hm
 refine lS 0 av (fun x=>[(1,.ptr 0 0),(3,.tk 1 (v6.map D.str)),(4,.d (.int .i64 x.1)),(5,.d (.int .i64 x.2))]) (fun x=>[.row ((af.e a1).cells.map .d),.tok v6.length 9 1,.dead,.dead,.dead,.dead]) (mt 6) ?_
 rintro n1 ⟨s7,s8⟩ av
 obtain⟨dj,hm,av⟩:=aZ av
 dsimp only[k8] at hm
 iterate 11 refine go ?_
 refine wc hm (fun bB hm=>?_) fun bB hm=>?_
 ·iterate 7 refine go ?_
  obtain⟨v9,pR,hm⟩:=aa hm
  iterate 2 refine go ?_
  refine AL.s rfl (jo (.r rfl) Tryz.underlying9) ?_
  iterate 2 refine go ?_
  refine wc hm (fun di hm=>?_) fun di hm=>?_
  ·exact wk
  ·iterate 5 refine go ?_
   obtain⟨v10,lC,hm⟩:=aa hm
   iterate 2 refine go ?_
   refine AL.s rfl (jo (.r rfl) Tryz.underlying9) ?_
   exact wk
 ·exact wk
instance:CF 12:=⟨Tryz.call12,@B3⟩
theorem nC{n:Nat}{a1:(List af)}{a2:(List ae)}{r:Bool}(hm:dv n a1 a2=some r):Fn Tryz.prog 5 [(.sl (a1.map af.e)),(.sl (a2.map ae.e))] (.bool r):=by
 unfold dv at hm
 refine aaT Tryz.func5 fun g0 w0 bR=>?_
 refine rs 0 [0,1] 0 ?_
 iterate 8 refine go ?_
 obtain⟨kA,av,en⟩:=aa hm
 refine lS 0 av (fun x=>[(0,.d (.sl (a1.map af.e))),(1,.d (.sl (a2.map ae.e))),(5,.d (.int .i64 x))]) (fun x=>[]) (mt 0) ?_
 rintro n1 s3 av
 obtain⟨dj,hm,av⟩:=aZ av
 dsimp only[dI] at hm
 iterate 7 refine go ?_
 refine wc hm (fun bB hm=>?_) fun bB hm=>?_
 ·exact wk
 ·exact wk
instance:CF 5:=⟨Tryz.call5,@nC⟩
theorem B4{n:Nat}{a1:af}{r:af}(hm:qe n a1=some r):Fn Tryz.prog 13 [(af.e a1)] (af.e r):=by
 unfold qe at hm
 refine aaT Tryz.func13 fun g0 w0 bR=>?_
 refine go ?_
 refine AL.s rfl (cW (n:=0) .r rfl rfl rfl) ?_
 refine AL.s rfl (bE (n:=1) Im rfl) ?_
 iterate 6 refine go ?_
 obtain rfl:=si hm
 exact kg.d (.mS .r rfl rfl rfl QM .nil) rfl rfl
instance:CF 13:=⟨Tryz.call13,@B4⟩
theorem rZ{n:Nat}{a1:(List af)}{r:(List af)}(hm:lH n a1=some r):Fn Tryz.prog 6 [(.sl (a1.map af.e))] (.sl (r.map af.e)):=by
 unfold lH at hm
 refine aaT Tryz.func6 fun g0 w0 bR=>?_
 refine rs 0 [0] 0 ?_
 iterate 13 refine go ?_
 refine AW.mU (n:=0) 3 44 8 rfl rfl (by simp) ?_
 obtain⟨kA,av,en⟩:=aa hm
 refine lS 0 av (fun x=>[(3,.tk 0 (x.1.map af.e)),(6,.d (.sl (a1.map af.e))),(7,.d (.int .i64 (a1.length:Int))),(8,.d (.int .i64 x.2))]) (fun x=>[.tok x.1.length 44 8]) (mt 1) ?_
 rintro n1 ⟨s2,s3⟩ av
 obtain⟨dj,hm,av⟩:=aZ av
 dsimp only[gJ] at hm
 iterate 4 refine go ?_
 refine wc hm (fun bB hm=>?_) fun bB hm=>?_
 ·iterate 4 refine go ?_
  obtain⟨v4,ir,hm⟩:=aa hm
  iterate 2 refine go ?_
  refine AL.s rfl (bE (n:=1) Ip rfl) ?_
  iterate 5 refine go ?_
  obtain⟨v5,jL,hm⟩:=aa hm
  refine go ?_
  refine AL.s rfl (aF (ds:=([v5]:List af).map af.e) W1 (.cons (.r rfl) rfl (oE.one _) .nil) rfl (by decide)) ?_
  obtain⟨v6,oz,hm⟩:=aa hm
  iterate 7 refine go ?_
  obtain rfl:=si hm
  exact nx av (mt 1)
 ·refine go ?_
  obtain rfl:=si hm
  obtain rfl:=si av
  replace hm:=en
  try dsimp only at hm
  iterate 5 refine go ?_
  obtain rfl:=si hm
  exact ed rfl
instance:CF 6:=⟨Tryz.call6,@rZ⟩
theorem k9{n:Nat}{a1:(List aB)}{r:(List aB)}(hm:g_ n a1=some r):Fn Tryz.prog 8 [(.sl (a1.map aB.e))] (.sl (r.map aB.e)):=by
 unfold g_ at hm
 refine aaT Tryz.func8 fun g0 w0 bR=>?_
 refine rs 0 [0] 0 ?_
 iterate 13 refine go ?_
 refine AW.mU (n:=0) 3 39 11 rfl rfl (by simp) ?_
 obtain⟨kA,av,en⟩:=aa hm
 refine lS 0 av (fun x=>[(3,.tk 0 (x.1.map aB.e)),(6,.d (.sl (a1.map aB.e))),(7,.d (.int .i64 (a1.length:Int))),(8,.d (.int .i64 x.2))]) (fun x=>[.tok x.1.length 39 11]) (mt 1) ?_
 rintro n1 ⟨s2,s3⟩ av
 obtain⟨dj,hm,av⟩:=aZ av
 dsimp only[iY] at hm
 iterate 4 refine go ?_
 refine wc hm (fun bB hm=>?_) fun bB hm=>?_
 ·iterate 4 refine go ?_
  obtain⟨v4,ir,hm⟩:=aa hm
  iterate 2 refine go ?_
  refine AL.s rfl (bE (n:=1) TV rfl) ?_
  iterate 14 refine go ?_
  refine AL.s rfl (od Oa (.cons .r rfl rfl rfl rfl (aaR rfl) (.cons .r rfl rfl rfl rfl (aaR rfl) (.cons .r rfl rfl rfl rfl (aaR rfl) (.cons .r rfl rfl rfl rfl (aaR rfl) (.cons .r rfl rfl rfl rfl (aaR rfl) .nil)))))) ?_
  refine AL.s rfl (aF (ds:=([v4]:List aB).map aB.e) EI (.cons (.r rfl) rfl (lG.one _) .nil) rfl (by decide)) ?_
  obtain⟨v5,jL,hm⟩:=aa hm
  iterate 7 refine go ?_
  obtain rfl:=si hm
  exact nx av (mt 1)
 ·refine go ?_
  obtain rfl:=si hm
  obtain rfl:=si av
  replace hm:=en
  try dsimp only at hm
  iterate 5 refine go ?_
  obtain rfl:=si hm
  exact ed rfl
instance:CF 8:=⟨Tryz.call8,@k9⟩
theorem zL{n:Nat}{a1:(List aB)}{r:(List aB)}(hm:nu n a1=some r):aJ Tryz.prog 8 [.d (.sl (a1.map aB.e))] [] fun r' H'=>r'=kF [.hs 0 0 r.length 11]∧H'=[.bn (r.map aB.e) 39 11]:=by
 unfold nu at hm
 refine aJ.rl (fnn:=Tryz.f8) Tryz.func8 rfl (aaR rfl) (fun g0 w0 bR=>?_)
 refine rs 0 [0] 0 ?_
 iterate 13 refine go ?_
 refine AW.DL (n:=0) 3 39 11 rfl rfl ?_
 obtain⟨kA,av,en⟩:=aa hm
 refine lS 0 av (fun x=>[(3,.hs 0 0 x.2.length 11),(6,.d (.sl (a1.map aB.e))),(7,.d (.int .i64 (a1.length:Int))),(8,.d (.int .i64 x.1))]) (fun x=>[.bn (x.2.map aB.e) 39 11]) (mt 1) ?_
 rintro n1 ⟨s2,s3⟩ av
 obtain⟨dj,hm,av⟩:=aZ av
 dsimp only[gK] at hm
 iterate 4 refine go ?_
 refine wc hm (fun bB hm=>?_) fun bB hm=>?_
 ·iterate 4 refine go ?_
  obtain⟨v4,ir,hm⟩:=aa hm
  iterate 2 refine go ?_
  refine AL.s rfl (bE (n:=1) TV rfl) ?_
  iterate 14 refine go ?_
  refine AL.s rfl (od Oa (.cons .r rfl rfl rfl rfl (aaR rfl) (.cons .r rfl rfl rfl rfl (aaR rfl) (.cons .r rfl rfl rfl rfl (aaR rfl) (.cons .r rfl rfl rfl rfl (aaR rfl) (.cons .r rfl rfl rfl rfl (aaR rfl) .nil)))))) ?_
  refine AL.s rfl (aF (ds:=([v4]:List aB).map aB.e) EI (.cons (.r rfl) rfl (lG.one _) .nil) rfl (by decide)) ?_
  obtain⟨v5,jL,hm⟩:=aa hm
  refine AL.s rfl (yS (n:=2) (f:=aB.e) (l:=s3) (l':=([v4]:List aB)) EI .r (.r rfl) rfl rfl rfl lG jL) ?_
  iterate 6 refine go ?_
  obtain rfl:=si hm
  exact Exists.intro _ ⟨av,⟨[2],rfl,rfl,rfl,⟨(.hs rfl rfl),(.d rfl),(.d rfl),(.d rfl),trivial⟩,trivial,(.bn rfl .nil)⟩⟩
 ·refine go ?_
  obtain rfl:=si hm
  obtain rfl:=si av
  replace hm:=en
  try dsimp only at hm
  iterate 5 refine go ?_
  obtain rfl:=si hm
  exact⟨_,[0],(.tmp .r .nil),rfl,rfl,(.cons (.hs rfl rfl) .nil),(.bn rfl .nil)⟩
end Go.Proofs.YtjdnbobilgamdaaGreatDoor.Ab
