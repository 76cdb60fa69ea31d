/- The functions do what they are in plain Lean. Conditions: none. -/
import Derived.Test.YtjdnbobilgamdaaGreatDoorTg
import Derived.Test.YtjdnbobilgamdaaGreatDoorMi
import Derived.Test.YtjdnbobilgamdaaGreatDoorFd
set_option maxRecDepth 100000
set_option maxHeartbeats 20000000
namespace Go.Proofs.YtjdnbobilgamdaaGreatDoor.Ab
open Go
attribute [local irreducible] bj AL AD AW tE zT lT
theorem yi{n:Nat}{a1:(List Int)}{r:(List Int)}(hm:j_ n a1=some r):Fn Tryz.prog 160 [(.sl (a1.map D.i))] (.sl (r.map D.i)):=by
 unfold j_ at hm
 refine aaT Tryz.func160 fun g0 w0 bR=>?_
 exact wk
instance:CF 160:=⟨Tryz.call160,@yi⟩
theorem ti{n:Nat}{a1:Int}{r:Int}(hm:kr n a1=some r):Fn Tryz.prog 201 [(.int .u64 a1)] (.int .i64 r):=by
 unfold kr at hm
 refine aaT Tryz.func201 fun g0 w0 bR=>?_
 refine rs 0 [0] 0 ?_
 iterate 3 refine go ?_
 obtain⟨iP,hm,hZ⟩:=aa hm
 refine cS (t:=iP) 0 (fun x=>[(0,.d (.int .u64 x.1)),(2,.d (.int .i64 x.2))]) (fun x=>[]) ?_ ?_
 ·skip
  iterate 4 refine go ?_
  refine wc hm (fun bB hm=>?_) fun bB hm=>?_
  ·iterate 2 refine go ?_
   obtain⟨v2,ui,hm⟩:=aa hm
   refine AL.s rfl (DK (.r rfl) (.r rfl) ui) ?_
   exact wk
  ·exact wk
 ·rintro⟨s3,s4⟩ rfl
  replace hm:=hZ
  try dsimp only at hm
  obtain⟨EE,hm,EF⟩:=aa hm
  refine cS (t:=EE) 0 (fun x=>[(0,.d (.int .u64 x.1)),(2,.d (.int .i64 x.2))]) (fun x=>[]) ?_ ?_
  ·skip
   iterate 4 refine go ?_
   refine wc hm (fun di hm=>?_) fun di hm=>?_
   ·iterate 2 refine go ?_
    obtain⟨v5,jL,hm⟩:=aa hm
    refine AL.s rfl (DK (.r rfl) (.r rfl) jL) ?_
    exact wk
   ·exact wk
  ·rintro⟨s6,s7⟩ rfl
   replace hm:=EF
   try dsimp only at hm
   obtain⟨TP,hm,TQ⟩:=aa hm
   refine cS (t:=TP) 0 (fun x=>[(0,.d (.int .u64 x.1)),(2,.d (.int .i64 x.2))]) (fun x=>[]) ?_ ?_
   ·skip
    iterate 4 refine go ?_
    refine wc hm (fun mq hm=>?_) fun mq hm=>?_
    ·iterate 2 refine go ?_
     obtain⟨v8,oA,hm⟩:=aa hm
     refine AL.s rfl (DK (.r rfl) (.r rfl) oA) ?_
     exact wk
    ·exact wk
   ·rintro⟨s9,kp⟩ rfl
    replace hm:=TQ
    try dsimp only at hm
    iterate 3 refine go ?_
    refine AL.s rfl (n5 (.r rfl) ⟨_,Tryz.underlying247⟩ Tryz.underlying5) ?_
    obtain⟨v11,nw,hm⟩:=aa hm
    refine AL.s rfl (jh (.r rfl) (.r rfl) nw Tryz.underlying9) ?_
    refine AL.s rfl (n5 (.r rfl) ⟨_,Tryz.underlying5⟩ Tryz.underlying3) ?_
    exact wk
instance:CF 201:=⟨Tryz.call201,@ti⟩
theorem vE{n:Nat}{a1:Int}{r:Int}(hm:jB n a1=some r):Fn Tryz.prog 140 [(.int .u64 a1)] (.int .i64 r):=by
 unfold jB at hm
 refine aaT Tryz.func140 fun g0 w0 bR=>?_
 iterate 4 refine go ?_
 refine AW.cond (b:=false) rfl (fun hc=>by cases hc) (fun hc=>?_)
 exact wk
instance:CF 140:=⟨Tryz.call140,@vE⟩
theorem Cv{n:Nat}{a1:(List Int)}{r:Int}(hm:nI n a1=some r):Fn Tryz.prog 228 [(.sl (a1.map D.i))] (.int .i64 r):=by
 unfold nI at hm
 refine aaT Tryz.func228 fun g0 w0 bR=>?_
 iterate 6 refine go ?_
 obtain⟨v2,ui,hm⟩:=aa hm
 iterate 8 refine go ?_
 refine wc hm (fun bB hm=>?_) fun bB hm=>?_
 ·exact wk
 ·iterate 10 refine go ?_
  obtain⟨v3,iw,hm⟩:=aa hm
  iterate 2 refine go ?_
  refine AL.s rfl (n5 (.r rfl) ⟨_,Tryz.underlying3⟩ Tryz.underlying225) ?_
  exact wk
instance:CF 228:=⟨Tryz.call228,@Cv⟩
theorem BX{n:Nat}{a1:(List Int)}{a2:Int}{r:((List Int)×Int)}(hm:mA n a1 a2=some r):Fn Tryz.prog 229 [(.sl (a1.map D.i)),(.int .i64 a2)] (.gd [(.sl (r.1.map D.i)),(.int .i64 r.2)]):=by
 unfold mA at hm
 refine aaT Tryz.func229 fun g0 w0 bR=>?_
 iterate 6 refine go ?_
 refine rs 0 [0,1] 0 ?_
 iterate 2 refine go ?_
 obtain⟨v3,iw,hm⟩:=aa hm
 iterate 4 refine go ?_
 refine wc hm (fun bB hm=>?_) fun bB hm=>?_
 ·exact wk
 ·iterate 9 refine go ?_
  refine wc hm (fun di hm=>?_) fun di hm=>?_
  ·exact wk
  ·iterate 6 refine go ?_
   refine wc hm (fun mq hm=>?_) fun mq hm=>?_
   ·exact wk
   ·refine go ?_
    refine AW.free ?_
    refine AW.free ?_
    refine AW.ml [([],[]),([],[]),([],[0]),([],[]),([],[]),([],[]),([],[]),([],[]),([],[]),([0],[0,1]),([],[])] mo (by decide+kernel) ?_
    refine go ?_
    obtain⟨v4,ir,hm⟩:=aa hm
    refine go ?_
    obtain⟨v5,jL,hm⟩:=aa hm
    refine AD.s (ws:=[(0,_)]) rfl rfl (fun _ _ hH=>E9 (res:=0) (f:=D.i) (.r rfl) xj OZ rfl ((hH _ (by simp)).trans rfl) jL) ?_
    iterate 2 refine go ?_
    obtain⟨v6,oz,hm⟩:=aa hm
    refine go ?_
    obtain⟨v7,mE,hm⟩:=aa hm
    refine AD.s (ws:=[]) rfl rfl (fun _ _ hH=>IP (.r rfl) (.r rfl) mE) ?_
    refine AD.s (ws:=[]) rfl rfl (fun _ _ hH=>aF (ds:=([v7]:List Int).map D.i) xj (.cons (.r rfl) rfl (En.i.one _) .nil) rfl (by decide)) ?_
    obtain⟨v8,oA,hm⟩:=aa hm
    refine AD.s (ws:=[]) rfl rfl (fun _ _ hH=>cb Tryz.call279 .r (.cons (.r rfl) (.cons (.r rfl) .nil)) (th oA)) ?_
    obtain⟨v9,pR,hm⟩:=aa hm
    refine AD.s (ws:=[(0,_),(1,_)]) rfl rfl (fun _ _ hH=>wu (res:=1) (f:=D.i) (l:=v5) (l':=v8) xj .r (.r rfl) ((hH _ (by simp)).trans rfl) rfl ((hH _ (by simp)).trans rfl) En.i pR) ?_
    iterate 2 refine go ?_
    refine AW.freeze (f:=D.i) (l:=v9) 1 [6,31] rfl rfl En.i ⟨rfl,rfl,trivial⟩ ?_
    exact wk
instance:CF 229:=⟨Tryz.call229,@BX⟩
theorem vF{n:Nat}{a1:Int}{r:Bool}(hm:jA n a1=some r):Fn Tryz.prog 141 [(.int .i64 a1)] (.bool r):=by
 unfold jA at hm
 refine aaT Tryz.func141 fun g0 w0 bR=>?_
 exact wk
instance:CF 141:=⟨Tryz.call141,@vF⟩
theorem oC{n:Nat}{a1:Int}{a2:Int}{r:Int}(hm:fy n a1 a2=some r):Fn Tryz.prog 91 [(.int .i64 a1),(.int .i64 a2)] (.int .i64 r):=by
 unfold fy at hm
 refine aaT Tryz.func91 fun g0 w0 bR=>?_
 iterate 5 refine go ?_
 obtain⟨v3,iw,hm⟩:=aa hm
 iterate 5 refine go ?_
 obtain⟨v4,ir,hm⟩:=aa hm
 iterate 7 refine go ?_
 refine wc hm (fun bB hm=>?_) fun bB hm=>?_
 ·exact wk
 ·iterate 5 refine go ?_
  refine wc hm (fun mq hm=>?_) fun mq hm=>?_
  ·exact wk
  ·iterate 7 refine go ?_
   refine wc hm (fun BS hm=>?_) fun BS hm=>?_
   ·exact wk
   ·iterate 7 refine go ?_
    refine wc hm (fun Cu hm=>?_) fun Cu hm=>?_
    ·refine rs 0 [] 0 ?_
     exact wk
    ·exact wk
instance:CF 91:=⟨Tryz.call91,@oC⟩
theorem yj{n:Nat}{a1:(List Int)}{a2:(List Int)}{r:Int}(hm:lW n a1 a2=some r):Fn Tryz.prog 281 [(.sl (a1.map D.i)),(.sl (a2.map D.i))] (.int .i64 r):=by
 unfold lW at hm
 refine aaT Tryz.func281 fun g0 w0 bR=>?_
 refine rs 0 [0,1] 0 ?_
 iterate 11 refine go ?_
 refine wc hm (fun bB hm=>?_) fun bB hm=>?_
 ·exact wk
 ·iterate 8 refine go ?_
  obtain⟨kA,av,en⟩:=aa hm
  refine lS 0 av (fun x=>[(0,.d (.sl (a1.map D.i))),(1,.d (.sl (a2.map D.i))),(18,.d (.int .i64 (a1.length:Int))),(19,.d (.int .i64 x))]) (fun x=>[]) (mt 0) ?_
  rintro n1 s4 av
  obtain⟨dj,hm,av⟩:=aZ av
  dsimp only[iB] at hm
  iterate 4 refine go ?_
  refine wc hm (fun di hm=>?_) fun di hm=>?_
  ·iterate 15 refine go ?_
   refine AW.ml [([],[]),([],[]),([],[]),([],[]),([],[]),([],[]),([],[]),([],[]),([],[])] mo (by decide+kernel) ?_
   iterate 2 refine go ?_
   obtain⟨v5,jL,hm⟩:=aa hm
   iterate 4 refine go ?_
   obtain⟨v6,oz,hm⟩:=aa hm
   iterate 4 refine go ?_
   refine wc hm (fun mq hm=>?_) fun mq hm=>?_
   ·refine AW.ml [([],[]),([],[]),([],[]),([],[]),([],[]),([],[]),([],[]),([],[]),([],[]),([],[])] mo (by decide+kernel) ?_
    iterate 2 refine go ?_
    obtain⟨v7,mE,hm⟩:=aa hm
    iterate 4 refine go ?_
    obtain⟨v8,oA,hm⟩:=aa hm
    iterate 2 refine go ?_
    obtain⟨v9,pR,hm⟩:=aa hm
    refine AD.s (ws:=[]) rfl rfl (fun _ _ hH=>cb Tryz.call91 .r (.cons (.r rfl) (.cons (.r rfl) .nil)) (oC pR)) ?_
    exact wk
   ·exact wk
  ·exact wk
instance:CF 281:=⟨Tryz.call281,@yj⟩
theorem yl{n:Nat}{a1:(List Int)}{a2:(List Int)}{r:Int}(hm:lX n a1 a2=some r):Fn Tryz.prog 230 [(.sl (a1.map D.i)),(.sl (a2.map D.i))] (.int .i64 r):=by
 unfold lX at hm
 refine aaT Tryz.func230 fun g0 w0 bR=>?_
 iterate 6 refine go ?_
 obtain⟨v3,iw,hm⟩:=aa hm
 iterate 4 refine go ?_
 obtain⟨v4,ir,hm⟩:=aa hm
 iterate 4 refine go ?_
 refine wc hm (fun bB hm=>?_) fun bB hm=>?_
 ·exact wk
 ·exact wk
instance:CF 230:=⟨Tryz.call230,@yl⟩
theorem zC{n:Nat}{a1:(List Int)}{a2:(List Int)}{r:Int}(hm:ng n a1 a2=some r):Fn Tryz.prog 159 [(.sl (a1.map D.i)),(.sl (a2.map D.i))] (.int .i64 r):=by
 unfold ng at hm
 refine aaT Tryz.func159 fun g0 w0 bR=>?_
 refine rs 0 [0,1] 0 ?_
 iterate 5 refine go ?_
 obtain⟨v3,iw,hm⟩:=aa hm
 iterate 2 refine go ?_
 obtain⟨v4,ir,hm⟩:=aa hm
 iterate 8 refine go ?_
 obtain⟨v5,jL,hm⟩:=aa hm
 iterate 12 refine go ?_
 obtain⟨v6,oz,hm⟩:=aa hm
 iterate 7 refine go ?_
 obtain⟨iP,hm,hZ⟩:=aa hm
 refine cS (t:=iP) 0 (fun x=>[(5,.d (.int .i64 x))]) (fun x=>[]) ?_ ?_
 ·skip
  iterate 3 refine go ?_
  obtain⟨v7,mE,hm⟩:=aa hm
  iterate 3 refine go ?_
  refine wc hm (fun bB hm=>?_) fun bB hm=>?_
  ·iterate 5 refine go ?_
   obtain rfl:=si hm
   exact nx rfl (mt 0)
  ·refine go ?_
   obtain rfl:=si hm
   exact nx rfl (mt 0)
 ·rintro s8 rfl
  replace hm:=hZ
  exact wk
instance:CF 159:=⟨Tryz.call159,@zC⟩
theorem ym{n:Nat}{a1:(List ah)}{r:(Int×Int)}(hm:hF n a1=some r):Fn Tryz.prog 114 [(.sl (a1.map ah.e))] (.gd [(.int .i64 r.1),(.int .i64 r.2)]):=by
 unfold hF at hm
 refine aaT Tryz.func114 fun g0 w0 bR=>?_
 iterate 7 refine go ?_
 obtain⟨v2,ui,hm⟩:=aa hm
 iterate 3 refine go ?_
 refine wc hm (fun bB hm=>?_) fun bB hm=>?_
 ·exact wk
 ·exact wk
instance:CF 114:=⟨Tryz.call114,@ym⟩
theorem qb{n:Nat}{a1:ej}{a2:A7}{r:(Int×Int)}(hm:kH n a1 a2=some r):Fn Tryz.prog 62 [(ej.e a1),(A7.e a2)] (.gd [(.int .i64 r.1),(.int .i64 r.2)]):=by
 unfold kH at hm
 refine aaT Tryz.func62 fun g0 w0 bR=>?_
 refine go ?_
 refine AL.s rfl (cW (n:=0) .r rfl rfl rfl) ?_
 refine AL.s rfl (cW (n:=1) .r rfl rfl rfl) ?_
 iterate 6 refine go ?_
 obtain⟨v3,iw,hm⟩:=aa hm
 iterate 12 refine go ?_
 refine wc hm (fun bB hm=>?_) fun bB hm=>?_
 ·exact wk
 ·exact wk
instance:CF 62:=⟨Tryz.call62,@qb⟩
theorem rJ{n:Nat}{a1:(List af)}{a2:Int}{a3:Int}{r:(aB×Bool)}(hm:iu n a1 a2 a3=some r):Fn Tryz.prog 29 [(.sl (a1.map af.e)),(.int .i64 a2),(.int .i64 a3)] (.gd [(aB.e r.1),(.bool r.2)]):=by
 unfold iu at hm
 refine aaT Tryz.func29 fun g0 w0 bR=>?_
 refine rs 0 [0,1,2] 0 ?_
 refine go ?_
 refine AL.s rfl (bE (n:=0) N' rfl) ?_
 iterate 5 refine go ?_
 obtain⟨v4,ir,hm⟩:=aa hm
 iterate 4 refine go ?_
 refine AL.s rfl (bE (n:=1) Im rfl) ?_
 iterate 6 refine go ?_
 obtain⟨v5,jL,hm⟩:=aa hm
 iterate 4 refine go ?_
 refine AL.s rfl (bE (n:=2) Im rfl) ?_
 iterate 12 refine go ?_
 refine wc hm (fun bB hm=>?_) fun bB hm=>?_
 ·refine go ?_
  refine AL.s rfl (od Oa .nil) ?_
  iterate 4 refine go ?_
  obtain rfl:=si hm
  exact kg.d (.mS .r rfl rfl rfl TU (.tmp .r .nil)) rfl rfl
 ·iterate 4 refine go ?_
  obtain⟨v6,oz,hm⟩:=aa hm
  iterate 4 refine go ?_
  refine AL.s rfl (bE (n:=3) N7 rfl) ?_
  iterate 3 refine go ?_
  refine AW.ml [([],[]),([3],[]),([],[]),([],[]),([],[]),([],[]),([],[]),([],[])] mo (by decide+kernel) ?_
  obtain⟨v7,mE,hm⟩:=aa hm
  refine AD.s (ws:=[]) rfl rfl (fun _ _ hH=>cb Tryz.call32 .r .nil (qW mE)) ?_
  refine go ?_
  obtain⟨v8,oA,hm⟩:=aa hm
  refine AD.s (ws:=[]) rfl rfl (fun _ _ hH=>cb Tryz.call62 .r (.cons (.r rfl) (.cons (.r rfl) .nil)) (qb oA)) ?_
  iterate 6 refine go ?_
  refine rs 0 [1,2,6,12,14] 4 ?_
  iterate 5 refine go ?_
  refine AL.s rfl (od Oa (.cons .r rfl rfl rfl rfl (aaR rfl) (.cons .r rfl rfl rfl rfl (aaR rfl) (.cons .r rfl rfl rfl rfl (aaR rfl) (.cons .r rfl rfl rfl rfl (aaR rfl) .nil))))) ?_
  iterate 6 refine go ?_
  obtain rfl:=si hm
  exact kg.d (.mS .r rfl rfl rfl TU (.tmp .r .nil)) rfl rfl
instance:CF 29:=⟨Tryz.call29,@rJ⟩
theorem uy{n:Nat}{a1:(List af)}{a2:(List ae)}{a3:aB}{r:Bool}(hm:iR n a1 a2 a3=some r):Fn Tryz.prog 18 [(.sl (a1.map af.e)),(.sl (a2.map ae.e)),(aB.e a3)] (.bool r):=by
 unfold iR at hm
 refine aaT Tryz.func18 fun g0 w0 bR=>?_
 refine rs 0 [0,1,2] 0 ?_
 refine go ?_
 refine AL.s rfl (cW (n:=0) .r rfl rfl rfl) ?_
 iterate 12 refine go ?_
 refine wc hm (fun bB hm=>?_) fun bB hm=>?_
 ·exact wk
 ·iterate 5 refine go ?_
  refine wc hm (fun di hm=>?_) fun di hm=>?_
  ·refine AW.ml [([],[]),([],[]),([0],[]),([],[]),([],[]),([0],[]),([],[]),([],[]),([],[]),([0],[]),([],[]),([],[]),([],[]),([],[]),([],[]),([0],[]),([],[]),([],[]),([],[])] mo (by decide+kernel) ?_
   iterate 3 refine go ?_
   obtain⟨v4,ir,hm⟩:=aa hm
   refine AD.s (ws:=[]) rfl rfl (fun _ _ hH=>cb Tryz.call27 .r (.cons (.r rfl) (.cons (.r rfl) .nil)) (oU ir)) ?_
   iterate 2 refine go ?_
   obtain⟨v5,jL,hm⟩:=aa hm
   refine AD.s (ws:=[]) rfl rfl (fun _ _ hH=>cb Tryz.call26 .r (.cons (.r rfl) (.cons (.r rfl) .nil)) (jN jL)) ?_
   iterate 3 refine go ?_
   refine AD.sT rfl rfl rfl rfl (fun g _ _ hH=>mu TO .nil) ?_
   refine AD.sT rfl rfl rfl rfl (fun g _ _ hH=>wx (a:=a3.bD) (b:=(⟨(0:Int),(0:Int),(0:Int),(0:Int),(0:Int),(0:Int),(0:Int)⟩:A7)) Zt (.we g rfl rfl) (.we g rfl rfl)) ?_
   exact wk
  ·iterate 7 refine go ?_
   obtain⟨v6,oz,hm⟩:=aa hm
   iterate 4 refine go ?_
   refine AL.s rfl (bE (n:=1) N' rfl) ?_
   iterate 3 refine go ?_
   refine rs 0 [5,7,8] 2 ?_
   iterate 5 refine go ?_
   refine AL.sT rfl rfl rfl rfl (fun g=>wx (a:=a3) (b:=v6.1) Zu (.we g rfl rfl) (.we g rfl rfl)) ?_
   exact wk
instance:CF 18:=⟨Tryz.call18,@uy⟩
theorem fL{n:Nat}{a1:(List af)}{a2:(List ae)}{a3:Int}{a4:Int}{a5:(List aB)}{r:Int}(hm:cQ n a1 a2 a3 a4 a5=some r):Fn Tryz.prog 7 [(.sl (a1.map af.e)),(.sl (a2.map ae.e)),(.int .i64 a3),(.int .i64 a4),(.sl (a5.map aB.e))] (.int .i64 r):=by
 unfold cQ at hm
 refine aaT Tryz.func7 fun g0 w0 bR=>?_
 refine rs 0 [0,1,2,3,4] 0 ?_
 iterate 6 refine go ?_
 obtain⟨v6,oz,hm⟩:=aa hm
 iterate 4 refine go ?_
 obtain⟨v7,mE,hm⟩:=aa hm
 refine AL.sF rfl rfl rfl rfl (fun g=>bZ Tryz.call15 .r (.cons (.we (nt g) rfl) (.cons .r .nil)) (eT Tryz.call16 (fun _ _ hb=>(r_ hb).at _) (fU (nt g) mE))) ?_
 iterate 2 refine go ?_
 refine wc hm (fun bB hm=>?_) fun bB hm=>?_
 ·iterate 4 refine go ?_
  obtain rfl:=si hm
  exact ed rfl
 ·iterate 2 refine go ?_
  refine AL.s rfl (uT (n:=0) rfl) ?_
  iterate 9 refine go ?_
  obtain⟨kA,av,en⟩:=aa hm
  refine lS 0 av (fun x=>[(0,.d (.sl (a1.map af.e))),(1,.d (.sl (a2.map ae.e))),(2,.d (.int .i64 a3)),(3,.d (.int .i64 a4)),(4,.d (.sl (a5.map aB.e))),(11,.mp 0),(24,.d (.sl (a1.map af.e))),(25,.d (.int .i64 (a1.length:Int))),(26,.d (.int .i64 x.1))]) (fun x=>[.ob (oY (x.2.map (fun q=>((.int .i64 q.1),(.bool q.2)))))]) (mt 1) ?_
  rintro n1 ⟨s8,s9⟩ av
  obtain⟨dj,hm,av⟩:=aZ av
  dsimp only[cV] at hm
  iterate 4 refine go ?_
  refine wc hm (fun di hm=>?_) fun di hm=>?_
  ·iterate 4 refine go ?_
   obtain⟨v10,lC,hm⟩:=aa hm
   iterate 2 refine go ?_
   refine AL.s rfl (bE (n:=1) Im rfl) ?_
   iterate 7 refine go ?_
   refine AL.s rfl (xJ (m:=s9) (k:=v10.nU) (z:=(false:Bool)) (fv:=D.bool) (DT Tryz.underlying3) Tryz.underlying55 .r (.r rfl) rfl ⟨_,rfl,rfl⟩ (fun _ _=>.bool _)) ?_
   refine go ?_
   refine wc hm (fun mq hm=>?_) fun mq hm=>?_
   ·iterate 4 refine go ?_
    obtain rfl:=si hm
    obtain rfl:=si av
    replace hm:=en
    try dsimp only at hm
    obtain rfl:=si hm
    exact ed rfl
   ·iterate 5 refine go ?_
    obtain⟨v11,nw,hm⟩:=aa hm
    refine AL.s rfl (nT (m:=s9) (k:=v10.nU) (v:=true) (fv:=D.bool) (DT Tryz.underlying3) Tryz.underlying55 .r (.r rfl) (.r rfl) rfl nw) ?_
    iterate 5 refine go ?_
    obtain rfl:=si hm
    exact nx av (mt 1)
  ·refine go ?_
   obtain rfl:=si hm
   obtain rfl:=si av
   replace hm:=en
   try dsimp only at hm
   iterate 11 refine go ?_
   refine wc hm (fun BS hm=>?_) fun BS hm=>?_
   ·iterate 4 refine go ?_
    obtain rfl:=si hm
    exact ed rfl
   ·iterate 8 refine go ?_
    obtain⟨JH,gr,oJ⟩:=aa hm
    refine lS 0 gr (fun x=>[(0,.d (.sl (a1.map af.e))),(1,.d (.sl (a2.map ae.e))),(2,.d (.int .i64 x.1)),(3,.d (.int .i64 a4)),(46,.d (.sl (a5.map aB.e))),(47,.d (.int .i64 (a5.length:Int))),(48,.d (.int .i64 x.2))]) (fun x=>[.ob (oY (s9.map (fun q=>((.int .i64 q.1),(.bool q.2)))))]) (mt 1) ?_
    rintro n2 ⟨QT,Gy⟩ gr
    obtain⟨xg,hm,gr⟩:=aZ gr
    dsimp only[eB] at hm
    iterate 4 refine go ?_
    refine wc hm (fun Cu hm=>?_) fun Cu hm=>?_
    ·iterate 4 refine go ?_
     obtain⟨uH,vu,hm⟩:=aa hm
     iterate 2 refine go ?_
     refine AL.s rfl (bE (n:=1) N' rfl) ?_
     iterate 12 refine go ?_
     obtain⟨uM,rH,hm⟩:=aa hm
     iterate 4 refine go ?_
     refine wc hm (fun QQ hm=>?_) fun QQ hm=>?_
     ·iterate 4 refine go ?_
      obtain rfl:=si hm
      obtain rfl:=si gr
      replace hm:=oJ
      try dsimp only at hm
      obtain rfl:=si hm
      exact ed rfl
     ·iterate 10 refine go ?_
      obtain rfl:=si hm
      exact nx gr (mt 1)
    ·refine go ?_
     obtain rfl:=si hm
     obtain rfl:=si gr
     replace hm:=oJ
     try dsimp only at hm
     iterate 6 refine go ?_
     refine wc hm (fun N8 hm=>?_) fun N8 hm=>?_
     ·iterate 4 refine go ?_
      obtain rfl:=si hm
      exact ed rfl
     ·iterate 5 refine go ?_
      obtain rfl:=si hm
      exact ed rfl
instance:CF 7:=⟨Tryz.call7,@fL⟩
theorem rY{n:Nat}{a1:(List af)}{a2:Int}{r:(af×Bool)}(hm:jt n a1 a2=some r):Fn Tryz.prog 19 [(.sl (a1.map af.e)),(.int .i64 a2)] (.gd [(af.e r.1),(.bool r.2)]):=by
 unfold jt at hm
 refine aaT Tryz.func19 fun g0 w0 bR=>?_
 refine rs 0 [0,1] 0 ?_
 refine go ?_
 refine AL.s rfl (bE (n:=0) Ip rfl) ?_
 iterate 7 refine go ?_
 obtain⟨kA,av,en⟩:=aa hm
 refine lS 0 av (fun x=>[(0,.d (.sl (a1.map af.e))),(1,.d (.int .i64 a2)),(4,.ptr 0 0),(6,.d (.int .i64 x))]) (fun x=>[.row [.d (.int .i64 (0:Int)),.ex ([].map D.str),.d (.str ([]:List UInt8)),.ex ([].map D.i),.ex ([].map D.str),.ex ([].map D.str),.ex ([].map D.str),.ex ([].map D.str)]]) (mt 1) ?_
 rintro n1 s3 av
 obtain⟨dj,hm,av⟩:=aZ av
 dsimp only[gI] at hm
 iterate 7 refine go ?_
 refine wc hm (fun bB hm=>?_) fun bB hm=>?_
 ·iterate 6 refine go ?_
  obtain⟨v4,ir,hm⟩:=aa hm
  iterate 6 refine go ?_
  refine wc hm (fun di hm=>?_) fun di hm=>?_
  ·iterate 3 refine go ?_
   obtain⟨v5,jL,hm⟩:=aa hm
   iterate 6 refine go ?_
   obtain rfl:=si hm
   obtain rfl:=si av
   replace hm:=en
   try dsimp only at hm
   obtain rfl:=si hm
   exact kg.d (.mS .r rfl rfl rfl QU (.tmp .r .nil)) rfl rfl
  ·exact wk
 ·refine go ?_
  obtain rfl:=si hm
  obtain rfl:=si av
  replace hm:=en
  try dsimp only at hm
  refine go ?_
  refine AL.s rfl (od WX .nil) ?_
  iterate 4 refine go ?_
  obtain rfl:=si hm
  exact kg.d (.mS .r rfl rfl rfl QU (.tmp .r .nil)) rfl rfl
instance:CF 19:=⟨Tryz.call19,@rY⟩
theorem zD{n:Nat}{a1:(List UInt8)}{a2:Int}{a3:Int}{a4:Int}{r:Bool}(hm:ju n a1 a2 a3 a4=some r):Fn Tryz.prog 47 [(.str a1),(.int .i64 a2),(.int .u8 a3),(.int .u8 a4)] (.bool r):=by
 unfold ju at hm
 refine aaT Tryz.func47 fun g0 w0 bR=>?_
 refine rs 0 [0,1,2,3] 0 ?_
 iterate 8 refine go ?_
 obtain⟨kA,av,en⟩:=aa hm
 refine lS 0 av (fun x=>[(0,.d (.str a1)),(1,.d (.int .i64 a2)),(2,.d (.int .u8 a3)),(3,.d (.int .u8 a4)),(9,.d (.int .i64 x))]) (fun x=>[]) (mt 0) ?_
 rintro n1 s5 av
 obtain⟨dj,hm,av⟩:=aZ av
 dsimp only[jO] at hm
 iterate 4 refine go ?_
 refine AL.s rfl (jo (.r rfl) Tryz.underlying9) ?_
 iterate 2 refine go ?_
 refine wc hm (fun bB hm=>?_) fun bB hm=>?_
 ·iterate 6 refine go ?_
  obtain⟨v6,oz,hm⟩:=aa hm
  refine AL.s rfl (jh (.r rfl) (.r rfl) oz Tryz.underlying9) ?_
  iterate 5 refine go ?_
  obtain⟨v7,mE,hm⟩:=aa hm
  refine AL.sF rfl rfl rfl rfl (fun g=>jh (.we (nt g) rfl rfl) (.we (nt g) rfl rfl) (fU (nt g) mE) Tryz.underlying9) ?_
  iterate 4 refine go ?_
  refine wc hm (fun di hm=>?_) fun di hm=>?_
  ·exact wk
  ·exact wk
 ·refine go ?_
  obtain rfl:=si hm
  obtain rfl:=si av
  replace hm:=en
  try dsimp only at hm
  iterate 2 refine go ?_
  refine AL.s rfl (jo (.r rfl) Tryz.underlying9) ?_
  exact wk
instance:CF 47:=⟨Tryz.call47,@zD⟩
theorem zE{n:Nat}{a1:(List UInt8)}{r:Bool}(hm:ns n a1=some r):Fn Tryz.prog 73 [(.str a1)] (.bool r):=by
 unfold ns at hm
 refine aaT Tryz.func73 fun g0 w0 bR=>?_
 refine rs 0 [0] 0 ?_
 iterate 8 refine go ?_
 obtain⟨kA,av,en⟩:=aa hm
 refine lS 0 av (fun x=>[(0,.d (.str a1)),(3,.d (.int .i64 x))]) (fun x=>[]) (mt 0) ?_
 rintro n1 s2 av
 obtain⟨dj,hm,av⟩:=aZ av
 dsimp only[jP] at hm
 iterate 4 refine go ?_
 refine AL.s rfl (jo (.r rfl) Tryz.underlying9) ?_
 iterate 2 refine go ?_
 refine wc hm (fun bB hm=>?_) fun bB hm=>?_
 ·iterate 6 refine go ?_
  obtain⟨v3,iw,hm⟩:=aa hm
  refine AL.s rfl (jh (.r rfl) (.r rfl) iw Tryz.underlying9) ?_
  iterate 2 refine go ?_
  refine wc hm (fun di hm=>?_) fun di hm=>?_
  ·exact wk
  ·exact wk
 ·refine go ?_
  obtain rfl:=si hm
  obtain rfl:=si av
  replace hm:=en
  try dsimp only at hm
  iterate 2 refine go ?_
  refine AL.s rfl (jo (.r rfl) Tryz.underlying9) ?_
  iterate 3 refine go ?_
  refine AL.sT rfl rfl rfl rfl (fun g=>jo (.we g rfl rfl) Tryz.underlying9) ?_
  exact wk
instance:CF 73:=⟨Tryz.call73,@zE⟩
theorem yn{n:Nat}{a1:(List (List UInt8))}{r:Bool}(hm:ia n a1=some r):Fn Tryz.prog 48 [(.sl (a1.map D.str))] (.bool r):=by
 unfold ia at hm
 refine aaT Tryz.func48 fun g0 w0 bR=>?_
 refine rs 0 [0] 0 ?_
 iterate 8 refine go ?_
 obtain⟨kA,av,en⟩:=aa hm
 refine lS 0 av (fun x=>[(0,.d (.sl (a1.map D.str))),(3,.d (.int .i64 x))]) (fun x=>[]) (mt 0) ?_
 rintro n1 s2 av
 obtain⟨dj,hm,av⟩:=aZ av
 dsimp only[iS] at hm
 iterate 7 refine go ?_
 refine wc hm (fun bB hm=>?_) fun bB hm=>?_
 ·exact wk
 ·exact wk
instance:CF 48:=⟨Tryz.call48,@yn⟩
theorem BY{n:Nat}{a1:(List UInt8)}{r:Bool}(hm:oD n a1=some r):Fn Tryz.prog 49 [(.str a1)] (.bool r):=by
 unfold oD at hm
 refine aaT Tryz.func49 fun g0 w0 bR=>?_
 refine rs 0 [0] 0 ?_
 iterate 8 refine go ?_
 obtain⟨kA,av,en⟩:=aa hm
 refine lS 0 av (fun x=>[(0,.d (.str a1)),(3,.d (.int .i64 x))]) (fun x=>[]) (mt 0) ?_
 rintro n1 s2 av
 obtain⟨dj,hm,av⟩:=aZ av
 dsimp only[kY] at hm
 iterate 4 refine go ?_
 refine AL.s rfl (jo (.r rfl) Tryz.underlying9) ?_
 iterate 2 refine go ?_
 refine wc hm (fun bB hm=>?_) fun bB hm=>?_
 ·iterate 6 refine go ?_
  obtain⟨v3,iw,hm⟩:=aa hm
  refine AL.s rfl (jh (.r rfl) (.r rfl) iw Tryz.underlying9) ?_
  iterate 2 refine go ?_
  refine wc hm (fun di hm=>?_) fun di hm=>?_
  ·exact wk
  ·exact wk
 ·refine go ?_
  obtain rfl:=si hm
  obtain rfl:=si av
  replace hm:=en
  try dsimp only at hm
  iterate 2 refine go ?_
  refine AL.s rfl (jo (.r rfl) Tryz.underlying9) ?_
  iterate 6 refine go ?_
  obtain⟨v4,ir,hm⟩:=aa hm
  refine AL.Uy rfl rfl rfl rfl (fun gp g=>jh (.we (an gp (nt g)) rfl rfl) (.r rfl) (fU (an gp (nt g)) ir) Tryz.underlying9) ?_
  iterate 4 refine go ?_
  refine AL.EV rfl rfl rfl rfl (fun gp g=>jo (.we (an gp g) rfl rfl) Tryz.underlying9) ?_
  refine go ?_
  obtain⟨v5,jL,hm⟩:=aa hm
  refine AL.EV rfl rfl rfl rfl (fun gp g=>jh (.we (an gp g) rfl rfl) (.we (an gp g) rfl rfl) (fU (an gp g) jL) Tryz.underlying9) ?_
  exact wk
instance:CF 49:=⟨Tryz.call49,@BY⟩
end Go.Proofs.YtjdnbobilgamdaaGreatDoor.Ab
