/- The functions do what they are in plain Lean. Conditions: none. -/
import Derived.Test.YtjdnbobilgamdaaGreatDoorTg
import Derived.Test.YtjdnbobilgamdaaGreatDoorMi
import Derived.Test.YtjdnbobilgamdaaGreatDoorFe
set_option maxRecDepth 100000
set_option maxHeartbeats 20000000
namespace Go.Proofs.YtjdnbobilgamdaaGreatDoor.Ab
open Go
attribute [local irreducible] bj AL AD AW tE zT lT
theorem tj{n:Nat}{a1:(List (List UInt8))}{r:Bool}(hm:dH n a1=some r):Fn Tryz.prog 50 [(.sl (a1.map D.str))] (.bool r):=by
 unfold dH at hm
 refine aaT Tryz.func50 fun g0 w0 bR=>?_
 refine rs 0 [0] 0 ?_
 iterate 8 refine go ?_
 obtain⟨kA,av,en⟩:=aa hm
 refine lS 0 av (fun x=>[(0,.d (.sl (a1.map D.str))),(3,.d (.int .i64 x))]) (fun x=>[]) (mt 0) ?_
 rintro n1 s2 av
 obtain⟨dj,hm,av⟩:=aZ av
 dsimp only[bL] at hm
 iterate 7 refine go ?_
 refine wc hm (fun bB hm=>?_) fun bB hm=>?_
 ·iterate 3 refine go ?_
  refine AW.ml [([],[]),([],[]),([],[]),([],[]),([],[]),([],[]),([],[]),([],[]),([],[]),([],[])] mo (by decide+kernel) ?_
  iterate 3 refine go ?_
  obtain⟨v3,iw,hm⟩:=aa hm
  iterate 4 refine go ?_
  obtain⟨v4,ir,hm⟩:=aa hm
  iterate 4 refine go ?_
  refine wc hm (fun di hm=>?_) fun di hm=>?_
  ·exact wk
  ·exact wk
 ·exact wk
instance:CF 50:=⟨Tryz.call50,@tj⟩
theorem yo{n:Nat}{a1:af}{r:Bool}(hm:ib n a1=some r):Fn Tryz.prog 20 [(af.e a1)] (.bool r):=by
 unfold ib at hm
 refine aaT Tryz.func20 fun g0 w0 bR=>?_
 refine rs 0 [0] 0 ?_
 refine go ?_
 refine AL.s rfl (cW (n:=0) .r rfl rfl rfl) ?_
 iterate 7 refine go ?_
 obtain⟨kA,av,en⟩:=aa hm
 refine lS 0 av (fun x=>[(1,.ptr 0 0),(3,.d (.int .i64 x))]) (fun x=>[.row ((af.e a1).cells.map .d)]) (mt 1) ?_
 rintro n1 s2 av
 obtain⟨dj,hm,av⟩:=aZ av
 dsimp only[f_] at hm
 iterate 8 refine go ?_
 refine wc hm (fun bB hm=>?_) fun bB hm=>?_
 ·refine AW.skip ?_
  refine nq ?_
  refine AW.seq ?_
  refine AW.block ?_
  refine AW.ml [([],[]),([0],[]),([],[]),([],[]),([],[]),([],[]),([],[]),([],[]),([0],[]),([],[]),([],[]),([],[]),([],[]),([],[]),([],[]),([],[]),([],[]),([],[]),([],[]),([0],[]),([],[]),([],[]),([],[]),([],[]),([],[]),([0],[]),([],[]),([],[]),([],[]),([],[]),([],[]),([],[])] mo (by decide+kernel) ?_
  refine AD.s (ws:=[]) rfl rfl (fun H' _ hH=>bd .r BZ) ?_
  refine AD.s (ws:=[]) rfl rfl (fun H' _ hH=>bo .r ((hH _ (by simp)).trans rfl) rfl Ob) ?_
  refine AD.s (ws:=[]) rfl rfl (fun H' _ hH=>al .r) ?_
  obtain⟨v3,iw,hm⟩:=aa hm
  refine AD.s (ws:=[]) rfl rfl (fun H' _ hH=>bG (f:=D.i) (.r rfl) (.r rfl) iw En.i ef) ?_
  refine AD.s (ws:=[]) rfl rfl (fun H' _ hH=>cU .r rfl mK) ?_
  refine AD.s (ws:=[]) rfl rfl (fun H' _ hH=>uX (.r rfl) (.r rfl)) ?_
  refine AD.s (ws:=[]) rfl rfl (fun H' _ hH=>al .r) ?_
  refine AD.sF rfl rfl rfl rfl (fun g H' _ hH=>bd .r BZ) ?_
  refine AD.sF rfl rfl rfl rfl (fun g H' _ hH=>bo (.we (nt g) rfl) ((hH _ (by simp)).trans rfl) rfl Ob) ?_
  refine AD.sF rfl rfl rfl rfl (fun g H' _ hH=>al .r) ?_
  obtain⟨v4,ir,hm⟩:=aa hm
  refine AD.sF rfl rfl rfl rfl (fun g H' _ hH=>bG (f:=D.i) (.we (nt g) rfl rfl) (.we (nt g) rfl rfl) (fU (nt g) ir) En.i ef) ?_
  refine AD.sF rfl rfl rfl rfl (fun g H' _ hH=>cU (.we (nt g) rfl) rfl mK) ?_
  refine AD.sF rfl rfl rfl rfl (fun g H' _ hH=>xL (.we (nt g) rfl rfl) (.r rfl)) ?_
  refine AD.s (ws:=[]) rfl rfl (fun H' _ hH=>sv (.r rfl) rfl (fun h=>(.we (nt h) rfl rfl))) ?_
  refine AD.s (ws:=[]) rfl rfl (fun H' _ hH=>al .r) ?_
  refine AD.sF rfl rfl rfl rfl (fun g H' _ hH=>al .r) ?_
  refine AD.sF rfl rfl rfl rfl (fun g H' _ hH=>xL (.we (nt g) rfl rfl) (.r rfl)) ?_
  refine AD.sF rfl rfl rfl rfl (fun g H' _ hH=>al (.we (nt g) rfl)) ?_
  refine AD.EV rfl rfl rfl rfl (fun gp g H' _ hH=>bd .r BZ) ?_
  refine AD.EV rfl rfl rfl rfl (fun gp g H' _ hH=>bo (.we (an gp g) rfl) ((hH _ (by simp)).trans rfl) rfl Ob) ?_
  refine AD.EV rfl rfl rfl rfl (fun gp g H' _ hH=>al .r) ?_
  refine AD.EV rfl rfl rfl rfl (fun gp g H' _ hH=>zS (.we (an gp g) rfl rfl) (.r rfl)) ?_
  obtain⟨v5,jL,hm⟩:=aa hm
  refine AD.EV rfl rfl rfl rfl (fun gp g H' _ hH=>bG (f:=D.i) (.we (an gp g) rfl rfl) (.we (an gp g) rfl rfl) (fU (an gp g) jL) En.i ef) ?_
  refine AD.EV rfl rfl rfl rfl (fun gp g H' _ hH=>cU (.we (an gp g) rfl) rfl mK) ?_
  refine AD.EV rfl rfl rfl rfl (fun gp g H' _ hH=>bd .r BZ) ?_
  refine AD.EV rfl rfl rfl rfl (fun gp g H' _ hH=>bo (.we (an gp g) rfl) ((hH _ (by simp)).trans rfl) rfl Ob) ?_
  refine AD.EV rfl rfl rfl rfl (fun gp g H' _ hH=>al .r) ?_
  obtain⟨v6,oz,hm⟩:=aa hm
  refine AD.EV rfl rfl rfl rfl (fun gp g H' _ hH=>bG (f:=D.i) (.we (an gp g) rfl rfl) (.we (an gp g) rfl rfl) (fU (an gp g) oz) En.i ef) ?_
  refine AD.EV rfl rfl rfl rfl (fun gp g H' _ hH=>cU (.we (an gp g) rfl) rfl mK) ?_
  refine AD.EV rfl rfl rfl rfl (fun gp g H' _ hH=>Hx (.we (an gp g) rfl rfl) (.we (an gp g) rfl rfl)) ?_
  refine AD.sF rfl rfl rfl rfl (fun g H' _ hH=>AZ (.we (nt g) rfl rfl) (fun h=>(.we (an (nt g) h) rfl rfl)) rfl) ?_
  refine AD.s (ws:=[]) rfl rfl (fun H' _ hH=>sv (.r rfl) rfl (fun h=>(.we (nt h) rfl rfl))) ?_
  refine AD.nil ?_
  refine wc hm (fun di hm=>?_) fun di hm=>?_
  ·exact wk
  ·exact wk
 ·refine go ?_
  obtain rfl:=si hm
  obtain rfl:=si av
  replace hm:=en
  try dsimp only at hm
  refine go ?_
  refine rs 0 [1] 1 ?_
  iterate 4 refine go ?_
  obtain⟨JH,gr,oJ⟩:=aa hm
  refine lS 0 gr (fun x=>[(1,.ptr 0 0),(4,.d (.int .i64 x))]) (fun x=>[.row ((af.e a1).cells.map .d)]) (mt 1) ?_
  rintro n2 s7 gr
  obtain⟨xg,hm,gr⟩:=aZ gr
  dsimp only[lD] at hm
  iterate 8 refine go ?_
  refine wc hm (fun mq hm=>?_) fun mq hm=>?_
  ·exact wk
  ·refine go ?_
   obtain rfl:=si hm
   obtain rfl:=si gr
   replace hm:=oJ
   try dsimp only at hm
   iterate 5 refine go ?_
   obtain⟨t_3,ED,LA⟩:=aa hm
   refine lS 0 ED (fun x=>[(1,.ptr 0 0),(5,.d (.int .i64 x))]) (fun x=>[.row ((af.e a1).cells.map .d)]) (mt 1) ?_
   rintro n3 kp ED
   obtain⟨WR,hm,ED⟩:=aZ ED
   dsimp only[lE] at hm
   iterate 8 refine go ?_
   refine wc hm (fun Cu hm=>?_) fun Cu hm=>?_
   ·exact wk
   ·refine go ?_
    obtain rfl:=si hm
    obtain rfl:=si ED
    replace hm:=LA
    try dsimp only at hm
    iterate 29 refine go ?_
    refine wc hm (fun N8 hm=>?_) fun N8 hm=>?_
    ·refine rs 0 [] 1 ?_
     exact wk
    ·exact wk
instance:CF 20:=⟨Tryz.call20,@yo⟩
theorem yp{n:Nat}{a1:(List ae)}{r:Bool}(hm:kd n a1=some r):Fn Tryz.prog 21 [(.sl (a1.map ae.e))] (.bool r):=by
 unfold kd at hm
 refine aaT Tryz.func21 fun g0 w0 bR=>?_
 refine rs 0 [0] 0 ?_
 iterate 8 refine go ?_
 obtain⟨kA,av,en⟩:=aa hm
 refine lS 0 av (fun x=>[(0,.d (.sl (a1.map ae.e))),(3,.d (.int .i64 x))]) (fun x=>[]) (mt 0) ?_
 rintro n1 s2 av
 obtain⟨dj,hm,av⟩:=aZ av
 dsimp only[eW] at hm
 iterate 7 refine go ?_
 refine wc hm (fun bB hm=>?_) fun bB hm=>?_
 ·iterate 6 refine go ?_
  obtain⟨v3,iw,hm⟩:=aa hm
  iterate 2 refine go ?_
  refine AL.s rfl (bE (n:=0) QL rfl) ?_
  iterate 39 refine go ?_
  refine wc hm (fun di hm=>?_) fun di hm=>?_
  ·refine rs 0 [] 1 ?_
   iterate 4 refine go ?_
   obtain rfl:=si hm
   obtain rfl:=si av
   replace hm:=en
   try dsimp only at hm
   obtain rfl:=si hm
   exact ed rfl
  ·iterate 6 refine go ?_
   obtain rfl:=si hm
   exact nx av (mt 0)
 ·refine go ?_
  obtain rfl:=si hm
  obtain rfl:=si av
  replace hm:=en
  try dsimp only at hm
  iterate 7 refine go ?_
  obtain rfl:=si hm
  exact ed rfl
instance:CF 21:=⟨Tryz.call21,@yp⟩
theorem pH{n:Nat}{a1:(List Int)}{a2:Int}{r:Bool}(hm:kZ n a1 a2=some r):Fn Tryz.prog 75 [(.sl (a1.map D.i)),(.int .i64 a2)] (.bool r):=by
 unfold kZ at hm
 refine aaT Tryz.func75 fun g0 w0 bR=>?_
 refine rs 0 [0,1] 0 ?_
 iterate 8 refine go ?_
 obtain⟨kA,av,en⟩:=aa hm
 refine lS 0 av (fun x=>[(0,.d (.sl (a1.map D.i))),(1,.d (.int .i64 a2)),(5,.d (.int .i64 x))]) (fun x=>[]) (mt 0) ?_
 rintro n1 s3 av
 obtain⟨dj,hm,av⟩:=aZ av
 dsimp only[gx] at hm
 iterate 7 refine go ?_
 refine wc hm (fun bB hm=>?_) fun bB hm=>?_
 ·exact wk
 ·exact wk
instance:CF 75:=⟨Tryz.call75,@pH⟩
theorem pJ{n:Nat}{a1:(List Int)}{a2:Int}{r:(List Int)}(hm:je n a1 a2=some r):Fn Tryz.prog 169 [(.sl (a1.map D.i)),(.int .i64 a2)] (.sl (r.map D.i)):=by
 unfold je at hm
 refine aaT Tryz.func169 fun g0 w0 bR=>?_
 refine rs 0 [0,1] 0 ?_
 iterate 8 refine go ?_
 obtain⟨kA,av,en⟩:=aa hm
 refine lS 0 av (fun x=>[(0,.d (.sl (a1.map D.i))),(1,.d (.int .i64 a2)),(5,.d (.int .i64 x))]) (fun x=>[]) (mt 0) ?_
 rintro n1 s3 av
 obtain⟨dj,hm,av⟩:=aZ av
 dsimp only[gy] at hm
 iterate 9 refine go ?_
 obtain⟨v4,ir,hm⟩:=aa hm
 iterate 6 refine go ?_
 refine wc hm (fun bB hm=>?_) fun bB hm=>?_
 ·exact wk
 ·refine go ?_
  obtain rfl:=si hm
  obtain rfl:=si av
  replace hm:=en
  try dsimp only at hm
  iterate 9 refine go ?_
  obtain⟨v5,jL,hm⟩:=aa hm
  iterate 6 refine go ?_
  refine wc hm (fun di hm=>?_) fun di hm=>?_
  ·exact wk
  ·refine go ?_
   refine AW.free ?_
   refine AW.free ?_
   refine AW.ml [([],[]),([],[]),([],[]),([],[]),([],[]),([],[]),([],[]),([],[]),([],[]),([],[0]),([],[1]),([],[])] mo (by decide+kernel) ?_
   iterate 3 refine go ?_
   obtain⟨v6,oz,hm⟩:=aa hm
   iterate 2 refine go ?_
   refine AD.s (ws:=[]) rfl rfl (fun _ _ hH=>aF (ds:=([a2]:List Int).map D.i) ef (.cons (.r rfl) rfl (En.i.one _) .nil) rfl (by decide)) ?_
   iterate 2 refine go ?_
   obtain⟨v7,mE,hm⟩:=aa hm
   refine AD.s (ws:=[]) rfl rfl (fun _ _ hH=>nD (f:=D.i) (.r rfl) ef (.r rfl) rfl En.i mE) ?_
   obtain⟨v8,oA,hm⟩:=aa hm
   refine AD.s (ws:=[(0,_)]) rfl rfl (fun _ _ hH=>oX (res:=0) (f:=D.i) (l:=([a2]:List Int)) (l':=v7) ef .r (.r rfl) ((hH _ (by simp)).trans rfl) En.i oA) ?_
   obtain⟨v9,pR,hm⟩:=aa hm
   refine AD.s (ws:=[(1,_)]) rfl rfl (fun _ _ hH=>oX (res:=1) (f:=D.i) (l:=v6) (l':=v8) ef .r (.r rfl) ((hH _ (by simp)).trans rfl) En.i pR) ?_
   exact wk
instance:CF 169:=⟨Tryz.call169,@pJ⟩
theorem yq{n:Nat}{a1:(List ae)}{a2:Int}{r:(List Int)}(hm:l8 n a1 a2=some r):Fn Tryz.prog 122 [(.sl (a1.map ae.e)),(.int .i64 a2)] (.sl (r.map D.i)):=by
 unfold l8 at hm
 refine aaT Tryz.func122 fun g0 w0 bR=>?_
 refine rs 0 [0,1] 0 ?_
 iterate 5 refine go ?_
 refine AL.s rfl (aF (ds:=([a2]:List Int).map D.i) ef (.cons (.r rfl) rfl (En.i.one _) .nil) rfl (by decide)) ?_
 iterate 7 refine go ?_
 obtain⟨kA,av,en⟩:=aa hm
 refine lS 0 av (fun x=>[(0,.d (.sl (a1.map ae.e))),(5,.d (.sl (x.1.map D.i))),(6,.d (.bool x.2))]) (fun x=>[]) (mt 0) ?_
 rintro n1 ⟨s3,s4⟩ av
 obtain⟨dj,hm,av⟩:=aZ av
 dsimp only[dZ] at hm
 iterate 4 refine go ?_
 refine wc hm (fun bB hm=>?_) fun bB hm=>?_
 ·iterate 9 refine go ?_
  obtain⟨JH,gr,oJ⟩:=aa hm
  refine lS 0 gr (fun x=>[(0,.d (.sl (a1.map ae.e))),(5,.d (.sl (x.1.map D.i))),(6,.d (.bool x.2.1)),(7,.d (.int .i64 x.2.2))]) (fun x=>[]) (mt 0) ?_
  rintro n2 ⟨s5,s6,s7⟩ gr
  obtain⟨xg,hm,gr⟩:=aZ gr
  dsimp only[d_] at hm
  refine AW.seq ?_
  refine AW.kz ?_
  refine AL.s rfl (al .r) ?_
  refine AL.s rfl (al .r) ?_
  refine AL.s rfl (tp (f:=ae.e) (.r rfl) Oc) ?_
  refine AL.s rfl (uX (.r rfl) (.r rfl)) ?_
  refine AL.nil ?_
  refine wc hm (fun di hm=>?_) fun di hm=>?_
  ·refine AW.skip ?_
   refine nq ?_
   obtain⟨iP,hm,hZ⟩:=aa hm
   refine cS (t:=iP) 0 (fun x=>[(0,.d (.sl (a1.map ae.e))),(5,.d (.sl (x.1.map D.i))),(6,.d (.bool x.2)),(7,.d (.int .i64 s7))]) (fun x=>[]) ?_ ?_
   ·skip
    refine AW.block ?_
    refine AW.reset 0 [(0,.d (.sl (a1.map ae.e))),(5,.d (.sl (s5.map D.i))),(6,.d (.bool s6)),(7,.d (.int .i64 s7))] [] (aQ.g0 bR (by simp)) ⟨[],rfl,rfl,rfl,⟨(.d rfl),(.d rfl),(.d rfl),(.d rfl),trivial⟩,trivial,.nil⟩ ?_
    refine AW.ml [([],[]),([],[]),([],[]),([],[]),([],[]),([],[]),([],[]),([],[]),([],[]),([],[]),([],[]),([],[]),([],[]),([],[]),([],[]),([],[]),([],[]),([],[]),([],[]),([],[]),([],[]),([],[]),([],[])] mo (by decide+kernel) ?_
    refine AD.s (ws:=[]) rfl rfl (fun H' _ hH=>al .r) ?_
    refine AD.s (ws:=[]) rfl rfl (fun H' _ hH=>al .r) ?_
    obtain⟨v8,oA,hm⟩:=aa hm
    refine AD.s (ws:=[]) rfl rfl (fun H' _ hH=>bG (f:=ae.e) (.r rfl) (.r rfl) oA nW Oc) ?_
    refine AD.s (ws:=[]) rfl rfl (fun H' _ hH=>gP .r Od) ?_
    refine AD.s (ws:=[]) rfl rfl (fun H' _ hH=>cU .r rfl mK) ?_
    refine AD.s (ws:=[]) rfl rfl (fun H' _ hH=>xM (.r rfl) (.r rfl)) ?_
    refine AD.s (ws:=[]) rfl rfl (fun H' _ hH=>al .r) ?_
    refine AD.sT rfl rfl rfl rfl (fun g H' _ hH=>al .r) ?_
    refine AD.sT rfl rfl rfl rfl (fun g H' _ hH=>al .r) ?_
    refine AD.sT rfl rfl rfl rfl (fun g H' _ hH=>al .r) ?_
    obtain⟨v9,pR,hm⟩:=aa hm
    refine AD.sT rfl rfl rfl rfl (fun g H' _ hH=>bG (f:=ae.e) (.we g rfl rfl) (.we g rfl rfl) (fU g pR) nW Oc) ?_
    refine AD.sT rfl rfl rfl rfl (fun g H' _ hH=>gP (.we g rfl) Oe) ?_
    refine AD.sT rfl rfl rfl rfl (fun g H' _ hH=>cU (.we g rfl) rfl mK) ?_
    obtain⟨v10,lC,hm⟩:=aa hm
    refine AD.sT rfl rfl rfl rfl (fun g H' _ hH=>cb Tryz.call75 .r (.cons (.we g rfl rfl) (.cons (.we g rfl rfl) .nil)) (pH (fU g lC))) ?_
    refine AD.sT rfl rfl rfl rfl (fun g H' _ hH=>al .r) ?_
    refine AD.sT rfl rfl rfl rfl (fun g H' _ hH=>al .r) ?_
    refine AD.sT rfl rfl rfl rfl (fun g H' _ hH=>al .r) ?_
    obtain⟨v11,nw,hm⟩:=aa hm
    refine AD.sT rfl rfl rfl rfl (fun g H' _ hH=>bG (f:=ae.e) (.we g rfl rfl) (.we g rfl rfl) (fU g nw) nW Oc) ?_
    refine AD.sT rfl rfl rfl rfl (fun g H' _ hH=>gP (.we g rfl) Of) ?_
    refine AD.sT rfl rfl rfl rfl (fun g H' _ hH=>cU (.we g rfl) rfl mK) ?_
    obtain⟨v12,pc,hm⟩:=aa hm
    refine AD.sT rfl rfl rfl rfl (fun g H' _ hH=>cb Tryz.call75 .r (.cons (.we g rfl rfl) (.cons (.we g rfl rfl) .nil)) (pH (fU g pc))) ?_
    refine AD.sT rfl rfl rfl rfl (fun g H' _ hH=>PN (.we g rfl rfl) (.we g rfl rfl) Tryz.underlying4) ?_
    refine AD.s (ws:=[]) rfl rfl (fun H' _ hH=>AZ (.r rfl) (fun h=>(.we h rfl rfl)) rfl) ?_
    refine AD.nil ?_
    refine wc hm (fun mq hm=>?_) fun mq hm=>?_
    ·refine AW.ml [([],[]),([],[]),([],[]),([],[]),([],[]),([],[]),([],[]),([],[]),([],[]),([],[]),([],[]),([],[]),([],[]),([],[])] mo (by decide+kernel) ?_
     iterate 3 refine go ?_
     obtain⟨qs,xh,hm⟩:=aa hm
     iterate 3 refine go ?_
     obtain⟨uH,vu,hm⟩:=aa hm
     refine AD.s (ws:=[]) rfl rfl (fun _ _ hH=>cb Tryz.call169 .r (.cons (.r rfl) (.cons (.r rfl) .nil)) (pJ vu)) ?_
     iterate 2 refine go ?_
     obtain⟨uM,rH,hm⟩:=aa hm
     iterate 3 refine go ?_
     obtain⟨xB,zy,hm⟩:=aa hm
     refine AD.s (ws:=[]) rfl rfl (fun _ _ hH=>cb Tryz.call169 .r (.cons (.r rfl) (.cons (.r rfl) .nil)) (pJ zy)) ?_
     exact wk
    ·exact wk
   ·rintro⟨WS,s18⟩ rfl
    replace hm:=hZ
    exact wk
  ·exact wk
 ·exact wk
instance:CF 122:=⟨Tryz.call122,@yq⟩
theorem yt{n:Nat}{a1:(List ae)}{a2:Int}{r:((List Int)×Int)}(hm:l9 n a1 a2=some r):Fn Tryz.prog 74 [(.sl (a1.map ae.e)),(.int .i64 a2)] (.gd [(.sl (r.1.map D.i)),(.int .i64 r.2)]):=by
 unfold l9 at hm
 refine aaT Tryz.func74 fun g0 w0 bR=>?_
 iterate 7 refine go ?_
 obtain⟨v3,iw,hm⟩:=aa hm
 iterate 3 refine go ?_
 refine wc hm (fun bB hm=>?_) fun bB hm=>?_
 ·exact wk
 ·exact wk
instance:CF 74:=⟨Tryz.call74,@yt⟩
theorem zF{n:Nat}{a1:(List ae)}{a2:Int}{a3:Int}{r:Bool}(hm:pe n a1 a2 a3=some r):Fn Tryz.prog 51 [(.sl (a1.map ae.e)),(.int .i64 a2),(.int .i64 a3)] (.bool r):=by
 unfold pe at hm
 refine aaT Tryz.func51 fun g0 w0 bR=>?_
 exact wk
instance:CF 51:=⟨Tryz.call51,@zF⟩
theorem qu{n:Nat}{a1:(List (List UInt8))}{a2:(List UInt8)}{r:Bool}(hm:nP n a1 a2=some r):Fn Tryz.prog 284 [(.sl (a1.map D.str)),(.str a2)] (.bool r):=by
 unfold nP at hm
 refine aaT Tryz.func284 fun g0 w0 bR=>?_
 refine rs 0 [0,1] 0 ?_
 iterate 8 refine go ?_
 obtain⟨kA,av,en⟩:=aa hm
 refine lS 0 av (fun x=>[(0,.d (.sl (a1.map D.str))),(1,.d (.str a2)),(5,.d (.int .i64 x))]) (fun x=>[]) (mt 0) ?_
 rintro n1 s3 av
 obtain⟨dj,hm,av⟩:=aZ av
 dsimp only[l_] at hm
 iterate 7 refine go ?_
 refine wc hm (fun bB hm=>?_) fun bB hm=>?_
 ·exact wk
 ·exact wk
instance:CF 284:=⟨Tryz.call284,@qu⟩
theorem xk{n:Nat}{a1:(List (List UInt8))}{a2:(List (List UInt8))}{r:Int}(hm:eA n a1 a2=some r):Fn Tryz.prog 237 [(.sl (a1.map D.str)),(.sl (a2.map D.str))] (.int .i64 r):=by
 unfold eA at hm
 refine aaT Tryz.func237 fun g0 w0 bR=>?_
 refine rs 0 [0,1] 0 ?_
 iterate 11 refine go ?_
 obtain⟨kA,av,en⟩:=aa hm
 refine lS 0 av (fun x=>[(0,.d (.sl (a1.map D.str))),(1,.d (.sl (a2.map D.str))),(5,.d (.int .i64 x.1)),(6,.d (.int .i64 x.2))]) (fun x=>[]) (mt 0) ?_
 rintro n1 ⟨s3,s4⟩ av
 obtain⟨dj,hm,av⟩:=aZ av
 dsimp only[gX] at hm
 iterate 7 refine go ?_
 refine wc hm (fun bB hm=>?_) fun bB hm=>?_
 ·refine go ?_
  obtain⟨iP,hm,hZ⟩:=aa hm
  refine cS (t:=iP) 0 (fun x=>[(0,.d (.sl (a1.map D.str))),(1,.d (.sl (a2.map D.str))),(5,.d (.int .i64 x)),(6,.d (.int .i64 s4))]) (fun x=>[]) ?_ ?_
  ·skip
   refine go ?_
   refine AW.ml [([],[]),([],[]),([],[]),([],[]),([],[]),([],[]),([],[]),([],[]),([],[]),([],[]),([],[]),([],[]),([],[]),([],[]),([],[]),([],[]),([],[])] mo (by decide+kernel) ?_
   iterate 3 refine go ?_
   obtain⟨v5,jL,hm⟩:=aa hm
   iterate 2 refine go ?_
   obtain⟨v6,oz,hm⟩:=aa hm
   refine AD.s (ws:=[]) rfl rfl (fun H' _ hH=>cb Tryz.call284 .r (.cons (.r rfl) (.cons (.r rfl) .nil)) (qu oz)) ?_
   refine AD.s (ws:=[]) rfl rfl (fun H' _ hH=>al .r) ?_
   refine AD.sT rfl rfl rfl rfl (fun g H' _ hH=>al .r) ?_
   refine AD.sT rfl rfl rfl rfl (fun g H' _ hH=>al .r) ?_
   obtain⟨v7,mE,hm⟩:=aa hm
   refine AD.sT rfl rfl rfl rfl (fun g H' _ hH=>nD (f:=D.str) (.we g rfl rfl) Og rfl (.we g rfl rfl) En.str (fU g mE)) ?_
   refine AD.sT rfl rfl rfl rfl (fun g H' _ hH=>al .r) ?_
   refine AD.sT rfl rfl rfl rfl (fun g H' _ hH=>al .r) ?_
   obtain⟨v8,oA,hm⟩:=aa hm
   refine AD.sT rfl rfl rfl rfl (fun g H' _ hH=>bG (f:=D.str) (.we g rfl rfl) (.we g rfl rfl) (fU g oA) En.str Og) ?_
   refine AD.sT rfl rfl rfl rfl (fun g H' _ hH=>cU (.we g rfl) rfl sc9) ?_
   obtain⟨v9,pR,hm⟩:=aa hm
   refine AD.sT rfl rfl rfl rfl (fun g H' _ hH=>cb Tryz.call284 .r (.cons (.we g rfl rfl) (.cons (.we g rfl rfl) .nil)) (qu (fU g pR))) ?_
   refine AD.sT rfl rfl rfl rfl (fun g H' _ hH=>xK (.we g rfl rfl)) ?_
   refine AD.s (ws:=[]) rfl rfl (fun H' _ hH=>AZ (.r rfl) (fun h=>(.we h rfl rfl)) rfl) ?_
   refine AD.nil ?_
   refine wc hm (fun di hm=>?_) fun di hm=>?_
   ·refine rs 0 [0,1,5,6] 0 ?_
    exact wk
   ·exact wk
  ·rintro kp rfl
   replace hm:=hZ
   exact wk
 ·exact wk
instance:CF 237:=⟨Tryz.call237,@xk⟩
theorem tl{n:Nat}{a1:(List (List UInt8))}{a2:(List (List UInt8))}{r:Bool}(hm:fD n a1 a2=some r):Fn Tryz.prog 238 [(.sl (a1.map D.str)),(.sl (a2.map D.str))] (.bool r):=by
 unfold fD at hm
 refine aaT Tryz.func238 fun g0 w0 bR=>?_
 refine rs 0 [0,1] 0 ?_
 iterate 11 refine go ?_
 refine wc hm (fun bB hm=>?_) fun bB hm=>?_
 ·exact wk
 ·iterate 6 refine go ?_
  obtain⟨kA,av,en⟩:=aa hm
  refine lS 0 av (fun x=>[(0,.d (.sl (a1.map D.str))),(1,.d (.sl (a2.map D.str))),(5,.d (.int .i64 x))]) (fun x=>[]) (mt 0) ?_
  rintro n1 s3 av
  obtain⟨dj,hm,av⟩:=aZ av
  dsimp only[fp] at hm
  iterate 7 refine go ?_
  refine wc hm (fun di hm=>?_) fun di hm=>?_
  ·iterate 3 refine go ?_
   refine AW.ml [([],[]),([],[]),([],[]),([],[]),([],[]),([],[]),([],[]),([],[]),([],[])] mo (by decide+kernel) ?_
   iterate 2 refine go ?_
   obtain⟨v4,ir,hm⟩:=aa hm
   iterate 4 refine go ?_
   obtain⟨v5,jL,hm⟩:=aa hm
   iterate 4 refine go ?_
   refine wc hm (fun mq hm=>?_) fun mq hm=>?_
   ·exact wk
   ·exact wk
  ·exact wk
instance:CF 238:=⟨Tryz.call238,@tl⟩
theorem xl{n:Nat}{a1:(List (List UInt8))}{r:(List UInt8)}(hm:iT n a1=some r):Fn Tryz.prog 240 [(.sl (a1.map D.str))] (.str r):=by
 unfold iT at hm
 refine aaT Tryz.func240 fun g0 w0 bR=>?_
 refine rs 0 [0] 0 ?_
 iterate 11 refine go ?_
 obtain⟨kA,av,en⟩:=aa hm
 refine lS 0 av (fun x=>[(0,.d (.sl (a1.map D.str))),(3,.d (.str x.1)),(4,.d (.int .i64 x.2))]) (fun x=>[]) (mt 0) ?_
 rintro n1 ⟨s2,s3⟩ av
 obtain⟨dj,hm,av⟩:=aZ av
 dsimp only[gY] at hm
 iterate 7 refine go ?_
 refine wc hm (fun bB hm=>?_) fun bB hm=>?_
 ·iterate 3 refine go ?_
  obtain⟨iP,hm,hZ⟩:=aa hm
  refine cS (t:=iP) 0 (fun x=>[(0,.d (.sl (a1.map D.str))),(3,.d (.str x)),(4,.d (.int .i64 s3))]) (fun x=>[]) ?_ ?_
  ·skip
   iterate 4 refine go ?_
   refine wc hm (fun di hm=>?_) fun di hm=>?_
   ·iterate 2 refine go ?_
    obtain⟨v4,ir,hm⟩:=aa hm
    iterate 3 refine go ?_
    obtain rfl:=si hm
    exact nx rfl (mt 0)
   ·refine go ?_
    obtain rfl:=si hm
    exact nx rfl (mt 0)
  ·rintro s5 rfl
   replace hm:=hZ
   exact wk
 ·exact wk
instance:CF 240:=⟨Tryz.call240,@xl⟩
theorem yu{n:Nat}{a1:(List UInt8)}{r:(List Int)}(hm:ma n a1=some r):Fn Tryz.prog 286 [(.str a1)] (.sl (r.map D.i)):=by
 unfold ma at hm
 refine aaT Tryz.func286 fun g0 w0 bR=>?_
 refine rs 0 [0] 0 ?_
 iterate 9 refine go ?_
 refine AL.s rfl (yV (n:=0) Tryz.underlying9 (.r rfl) rfl) ?_
 iterate 2 refine go ?_
 refine AW.mU (n:=1) 3 3 1 rfl rfl (by simp) ?_
 obtain⟨kA,av,en⟩:=aa hm
 refine lS 0 av (fun x=>[(3,.tk 1 (x.1.map D.i)),(7,.ptr 0 0)]) (fun x=>[.ob (OQ a1 x.2),.tok x.1.length 3 1]) (mt 2) ?_
 rintro n1 ⟨s2,s3⟩ av
 obtain⟨dj,hm,av⟩:=aZ av
 dsimp only[nQ] at hm
 refine go ?_
 obtain⟨v4,ir,hm⟩:=aa hm
 refine AL.s rfl (AQ .r rfl ir) ?_
 iterate 3 refine go ?_
 refine wc hm (fun bB hm=>?_) fun bB hm=>?_
 ·iterate 3 refine go ?_
  refine AL.s rfl (IT (r:=v4) (by assumption) .r) ?_
  iterate 5 refine go ?_
  refine AL.s rfl (n5 (.r rfl) ⟨_,Tryz.underlying21⟩ Tryz.underlying3) ?_
  refine AL.s rfl (aF (ds:=([(IntKind.i64.wrap v4.2.2.1)]:List Int).map D.i) ef (.cons (.r rfl) rfl (En.i.one _) .nil) rfl (by decide)) ?_
  exact wk
 ·exact wk
instance:CF 286:=⟨Tryz.call286,@yu⟩
theorem yv{n:Nat}{a1:(List Int)}{a2:(List Int)}{r:(List (List Int))}(hm:mc n a1 a2=some r):Fn Tryz.prog 329 [(.sl (a1.map D.i)),(.sl (a2.map D.i))] (.sl (r.map (LY D.i))):=by
 unfold mc at hm
 refine aaT Tryz.func329 fun g0 w0 bR=>?_
 refine rs 0 [0,1] 0 ?_
 iterate 7 refine go ?_
 obtain⟨v3,iw,hm⟩:=aa hm
 refine AL.s rfl (qC (n:=0) (f:=(LY D.i)) (.r rfl) WY WZ rfl rfl iw) ?_
 obtain⟨v4,ir,hm⟩:=aa hm
 refine AL.DY (f:=D.i) (e:=3) (eo:=42) (l:=v3) 0 rfl ir ?_
 iterate 9 refine go ?_
 obtain⟨kA,av,en⟩:=aa hm
 refine lS 0 av (fun x=>[(0,.d (.sl (a1.map D.i))),(1,.d (.sl (a2.map D.i))),(5,.hs 0 0 v3.length 1),(6,.d (.int .i64 x.1))]) (fun x=>[.ob (tE 3 42 v3.length (lT D.i x.2))]) (mt 1) ?_
 rintro n1 ⟨s5,s6⟩ av
 obtain⟨dj,hm,av⟩:=aZ av
 dsimp only[iU] at hm
 iterate 5 refine go ?_
 refine wc hm (fun bB hm=>?_) fun bB hm=>?_
 ·iterate 9 refine go ?_
  obtain⟨v7,mE,hm⟩:=aa hm
  refine AL.s rfl (qC (n:=1) (f:=D.i) (.r rfl) ef OZ rfl rfl mE) ?_
  refine AL.xO 0 rfl (fun ZF=>?_)
  obtain⟨v8,oA,hm⟩:=aa hm
  refine go ?_
  refine AL.DX 0 rfl ?_
  obtain⟨v9,pR,hm⟩:=aa hm
  refine AL.s rfl (DZ (f:=D.i) (M:=s6) (a:=s5) (l:=v7) .r (fun _=>rfl) .r rfl rfl rfl pR ⟨_,rfl,rfl⟩) ?_
  iterate 7 refine go ?_
  obtain⟨JH,gr,oJ⟩:=aa hm
  refine lS 0 gr (fun x=>[(0,.d (.sl (a1.map D.i))),(1,.d (.sl (a2.map D.i))),(5,.hs 0 0 v3.length 1),(6,.d (.int .i64 s5)),(7,.d (.int .i64 x.1))]) (fun x=>[.ob (tE 3 42 v3.length (lT D.i x.2)),.dead]) (mt 2) ?_
  rintro n2 ⟨kp,i_⟩ gr
  obtain⟨xg,hm,gr⟩:=aZ gr
  dsimp only[iV] at hm
  iterate 5 refine go ?_
  refine wc hm (fun di hm=>?_) fun di hm=>?_
  ·refine go ?_
   obtain⟨iP,hm,hZ⟩:=aa hm
   refine cS (t:=iP) 0 (fun x=>[(0,.d (.sl (a1.map D.i))),(1,.d (.sl (a2.map D.i))),(5,.hs 0 0 v3.length 1),(6,.d (.int .i64 s5)),(7,.d (.int .i64 kp))]) (fun x=>[.ob (tE 3 42 v3.length (lT D.i x)),.dead]) ?_ ?_
   ·skip
    iterate 2 refine go ?_
    refine rs 0 [0,1,5,6,7] 2 ?_
    iterate 7 refine go ?_
    refine wc hm (fun mq hm=>?_) fun mq hm=>?_
    ·iterate 3 refine go ?_
     refine AL.xO 0 rfl (fun ZG=>?_)
     obtain⟨v12,pc,hm⟩:=aa hm
     refine go ?_
     obtain⟨qs,xh,hm⟩:=aa hm
     iterate 6 refine go ?_
     obtain⟨uH,vu,hm⟩:=aa hm
     refine AL.s rfl (dT (id:=0) (f:=D.i) (M:=i_) (a:=s5) (.r rfl) (fun _=>rfl) rfl (.r rfl) vu ef) ?_
     obtain⟨uM,rH,hm⟩:=aa hm
     refine AL.s rfl (oZ (id:=0) (f:=D.i) (M:=i_) (a:=s5) (c:=kp) (.r rfl) (fun _=>rfl) En.i (.r rfl) rfl rH ⟨_,rfl,rfl⟩) ?_
     refine AL.DX 0 rfl ?_
     refine go ?_
     obtain rfl:=si hm
     exact nx rfl (mt 2)
    ·iterate 7 refine go ?_
     refine wc hm (fun BS hm=>?_) fun BS hm=>?_
     ·iterate 3 refine go ?_
      refine AL.xO 0 rfl (fun ZH=>?_)
      obtain⟨xB,zy,hm⟩:=aa hm
      refine go ?_
      obtain⟨v17,Gx,hm⟩:=aa hm
      iterate 6 refine go ?_
      obtain⟨ES,yd,hm⟩:=aa hm
      refine AL.s rfl (dT (id:=0) (f:=D.i) (M:=i_) (a:=s5) (.r rfl) (fun _=>rfl) rfl (.r rfl) yd ef) ?_
      obtain⟨zz,Io,hm⟩:=aa hm
      refine AL.s rfl (oZ (id:=0) (f:=D.i) (M:=i_) (a:=s5) (c:=kp) (.r rfl) (fun _=>rfl) En.i (.r rfl) rfl Io ⟨_,rfl,rfl⟩) ?_
      refine AL.DX 0 rfl ?_
      refine go ?_
      obtain rfl:=si hm
      exact nx rfl (mt 2)
     ·refine rs 0 [0,1,5,6,7] 2 ?_
      refine AW.ml [([],[]),([],[]),([],[]),([],[]),([],[]),([],[]),([],[]),([],[]),([],[]),([],[])] mo (by decide+kernel) ?_
      iterate 2 refine go ?_
      obtain⟨v20,N5,hm⟩:=aa hm
      iterate 4 refine go ?_
      obtain⟨v21,Ik,hm⟩:=aa hm
      iterate 5 refine go ?_
      refine wc hm (fun Cu hm=>?_) fun Cu hm=>?_
      ·refine rs 0 [0,1,5,6,7] 2 ?_
       refine AW.xO 0 rfl (fun ZI=>?_)
       refine AW.Mk 0 [([],[]),([],[]),([0],[]),([0],[]),([],[]),([],[]),([],[]),([],[]),([0],[]),([0],[]),([],[]),([],[]),([0],[]),([0],[]),([0],[]),([0],[0])] mo (by decide+kernel) ?_
       iterate 2 refine go ?_
       obtain⟨v22,Il,hm⟩:=aa hm
       refine go ?_
       obtain⟨v23,TR,hm⟩:=aa hm
       iterate 5 refine go ?_
       obtain⟨v24,QN,hm⟩:=aa hm
       refine go ?_
       obtain⟨v25,K9,hm⟩:=aa hm
       iterate 3 refine go ?_
       obtain⟨v26,QO,hm⟩:=aa hm
       refine AD.s (ws:=[]) rfl rfl (fun _ _ hH=>dT (id:=0) (f:=D.i) (M:=i_) (a:=(IntKind.i64.wrap (s5+(1:Int)))) (.r rfl) (fun _=>rfl) ((hH _ (by simp)).trans rfl) (.r rfl) QO ef) ?_
       obtain⟨US,N6,hm⟩:=aa hm
       refine AD.s (ws:=[]) rfl rfl (fun _ _ hH=>p0 (id:=0) (f:=D.i) (M:=i_) (a:=(IntKind.i64.wrap (s5+(1:Int)))) (c:=(IntKind.i64.wrap (kp+(1:Int)))) (.r rfl) (fun _=>rfl) ((hH _ (by simp)).trans rfl) N6 mK) ?_
       obtain⟨v28,WU,hm⟩:=aa hm
       refine AD.s (ws:=[]) rfl rfl (fun _ _ hH=>dT (id:=0) (f:=D.i) (M:=i_) (a:=s5) (.r rfl) (fun _=>rfl) ((hH _ (by simp)).trans rfl) (.r rfl) WU ef) ?_
       obtain⟨UT,QP,hm⟩:=aa hm
       refine AD.s (ws:=[(0,_)]) rfl rfl (fun _ _ hH=>oZ (id:=0) (f:=D.i) (M:=i_) (a:=s5) (c:=kp) (.r rfl) (fun _=>rfl) En.i (.r rfl) ((hH _ (by simp)).trans rfl) QP ⟨_,rfl,rfl⟩) ?_
       refine go ?_
       refine⟨_,_,_,_,_,rfl,?_⟩
       obtain rfl:=si hm
       exact nx rfl (mt 2)
      ·refine rs 0 [0,1,5,6,7] 2 ?_
       refine AW.xO 0 rfl (fun ZJ=>?_)
       refine AW.Mk 0 [([],[]),([],[]),([0],[]),([0],[]),([],[]),([],[]),([],[]),([],[]),([0],[]),([0],[]),([],[]),([],[]),([0],[]),([0],[]),([],[]),([],[]),([],[]),([0],[]),([0],[]),([],[]),([0],[]),([0],[]),([],[]),([],[]),([0],[]),([0],[]),([],[]),([],[]),([0],[]),([0],[]),([],[]),([],[]),([0],[]),([0],[0])] mo (by decide+kernel) ?_
       iterate 2 refine go ?_
       obtain⟨v30,ZE,hm⟩:=aa hm
       refine go ?_
       obtain⟨v31,aar,hm⟩:=aa hm
       iterate 5 refine go ?_
       obtain⟨v32,aas,hm⟩:=aa hm
       refine go ?_
       obtain⟨v33,aat,hm⟩:=aa hm
       iterate 3 refine go ?_
       obtain⟨v34,ZK,hm⟩:=aa hm
       refine AD.s (ws:=[]) rfl rfl (fun _ _ hH=>dT (id:=0) (f:=D.i) (M:=i_) (a:=(IntKind.i64.wrap (s5+(1:Int)))) (.r rfl) (fun _=>rfl) ((hH _ (by simp)).trans rfl) (.r rfl) ZK ef) ?_
       obtain⟨v35,ZL,hm⟩:=aa hm
       refine AD.s (ws:=[]) rfl rfl (fun _ _ hH=>p0 (id:=0) (f:=D.i) (M:=i_) (a:=(IntKind.i64.wrap (s5+(1:Int)))) (c:=(IntKind.i64.wrap (kp+(1:Int)))) (.r rfl) (fun _=>rfl) ((hH _ (by simp)).trans rfl) ZL mK) ?_
       iterate 3 refine go ?_
       obtain⟨v36,aau,hm⟩:=aa hm
       refine go ?_
       obtain⟨v37,aav,hm⟩:=aa hm
       iterate 2 refine go ?_
       obtain⟨v38,ZM,hm⟩:=aa hm
       refine AD.s (ws:=[]) rfl rfl (fun _ _ hH=>dT (id:=0) (f:=D.i) (M:=i_) (a:=(IntKind.i64.wrap (s5+(1:Int)))) (.r rfl) (fun _=>rfl) ((hH _ (by simp)).trans rfl) (.r rfl) ZM ef) ?_
       obtain⟨v39,ZN,hm⟩:=aa hm
       refine AD.s (ws:=[]) rfl rfl (fun _ _ hH=>p0 (id:=0) (f:=D.i) (M:=i_) (a:=(IntKind.i64.wrap (s5+(1:Int)))) (c:=kp) (.r rfl) (fun _=>rfl) ((hH _ (by simp)).trans rfl) ZN mK) ?_
       iterate 2 refine go ?_
       obtain⟨v40,aaw,hm⟩:=aa hm
       refine go ?_
       obtain⟨v41,aax,hm⟩:=aa hm
       iterate 3 refine go ?_
       obtain⟨v42,ZO,hm⟩:=aa hm
       refine AD.s (ws:=[]) rfl rfl (fun _ _ hH=>dT (id:=0) (f:=D.i) (M:=i_) (a:=s5) (.r rfl) (fun _=>rfl) ((hH _ (by simp)).trans rfl) (.r rfl) ZO ef) ?_
       obtain⟨v43,ZP,hm⟩:=aa hm
       refine AD.s (ws:=[]) rfl rfl (fun _ _ hH=>p0 (id:=0) (f:=D.i) (M:=i_) (a:=s5) (c:=(IntKind.i64.wrap (kp+(1:Int)))) (.r rfl) (fun _=>rfl) ((hH _ (by simp)).trans rfl) ZP mK) ?_
       iterate 2 refine go ?_
       obtain⟨v44,ZQ,hm⟩:=aa hm
       refine AD.s (ws:=[]) rfl rfl (fun _ _ hH=>dT (id:=0) (f:=D.i) (M:=i_) (a:=s5) (.r rfl) (fun _=>rfl) ((hH _ (by simp)).trans rfl) (.r rfl) ZQ ef) ?_
       obtain⟨v45,ZR,hm⟩:=aa hm
       refine AD.s (ws:=[(0,_)]) rfl rfl (fun _ _ hH=>oZ (id:=0) (f:=D.i) (M:=i_) (a:=s5) (c:=kp) (.r rfl) (fun _=>rfl) En.i (.r rfl) ((hH _ (by simp)).trans rfl) ZR ⟨_,rfl,rfl⟩) ?_
       refine go ?_
       refine⟨_,_,_,_,_,rfl,?_⟩
       obtain rfl:=si hm
       exact nx rfl (mt 2)
   ·rintro s46 rfl
    replace hm:=hZ
    try dsimp only at hm
    iterate 5 refine go ?_
    obtain rfl:=si hm
    exact nx gr (mt 2)
  ·refine go ?_
   obtain rfl:=si hm
   obtain rfl:=si gr
   replace hm:=oJ
   try dsimp only at hm
   iterate 5 refine go ?_
   obtain rfl:=si hm
   exact nx av (mt 1)
 ·refine go ?_
  obtain rfl:=si hm
  obtain rfl:=si av
  replace hm:=en
  try dsimp only at hm
  iterate 4 refine go ?_
  refine AW.A1 (f:=D.i) (M:=s6) 0 [4,5,119] rfl (fun _=>rfl) ⟨rfl,rfl,rfl,trivial⟩ ?_
  refine go ?_
  obtain rfl:=si hm
  exact ed rfl
instance:CF 329:=⟨Tryz.call329,@yv⟩
theorem uz{n:Nat}{a1:(List Int)}{a2:(List Int)}{r:Int}(hm:iW n a1 a2=some r):Fn Tryz.prog 285 [(.sl (a1.map D.i)),(.sl (a2.map D.i))] (.int .i64 r):=by
 unfold iW at hm
 refine aaT Tryz.func285 fun g0 w0 bR=>?_
 exact wk
instance:CF 285:=⟨Tryz.call285,@uz⟩
theorem zG{n:Nat}{a1:(List UInt8)}{a2:(List UInt8)}{r:Int}(hm:lF n a1 a2=some r):Fn Tryz.prog 239 [(.str a1),(.str a2)] (.int .i64 r):=by
 unfold lF at hm
 refine aaT Tryz.func239 fun g0 w0 bR=>?_
 exact wk
instance:CF 239:=⟨Tryz.call239,@zG⟩
theorem qX{n:Nat}{a1:(List (List UInt8))}{a2:(List (List UInt8))}{r:Int}(hm:me n a1 a2=some r):Fn Tryz.prog 170 [(.sl (a1.map D.str)),(.sl (a2.map D.str))] (.int .i64 r):=by
 unfold me at hm
 refine aaT Tryz.func170 fun g0 w0 bR=>?_
 refine rs 0 [0,1] 0 ?_
 iterate 6 refine go ?_
 obtain⟨v3,iw,hm⟩:=aa hm
 iterate 6 refine go ?_
 obtain⟨v4,ir,hm⟩:=aa hm
 iterate 3 refine go ?_
 obtain⟨v5,jL,hm⟩:=aa hm
 iterate 19 refine go ?_
 refine wc hm (fun bB hm=>?_) fun bB hm=>?_
 ·exact wk
 ·iterate 3 refine go ?_
  obtain⟨v6,oz,hm⟩:=aa hm
  iterate 3 refine go ?_
  refine wc hm (fun di hm=>?_) fun di hm=>?_
  ·exact wk
  ·iterate 8 refine go ?_
   obtain⟨v7,mE,hm⟩:=aa hm
   iterate 2 refine go ?_
   obtain⟨v8,oA,hm⟩:=aa hm
   refine go ?_
   obtain⟨v9,pR,hm⟩:=aa hm
   iterate 5 refine go ?_
   refine wc hm (fun mq hm=>?_) fun mq hm=>?_
   ·refine rs 0 [] 0 ?_
    exact wk
   ·exact wk
instance:CF 170:=⟨Tryz.call170,@qX⟩
theorem qc{n:Nat}{a1:(List UInt8)}{a2:(List UInt8)}{r:Int}(hm:k7 n a1 a2=some r):Fn Tryz.prog 171 [(.str a1),(.str a2)] (.int .i64 r):=by
 unfold k7 at hm
 refine aaT Tryz.func171 fun g0 w0 bR=>?_
 iterate 14 refine go ?_
 refine wc hm (fun bB hm=>?_) fun bB hm=>?_
 ·exact wk
 ·iterate 6 refine go ?_
  refine wc hm (fun di hm=>?_) fun di hm=>?_
  ·exact wk
  ·iterate 3 refine go ?_
   obtain⟨v3,iw,hm⟩:=aa hm
   iterate 4 refine go ?_
   refine wc hm (fun mq hm=>?_) fun mq hm=>?_
   ·exact wk
   ·refine go ?_
    refine rs 0 [] 0 ?_
    exact wk
instance:CF 171:=⟨Tryz.call171,@qc⟩
theorem qY{n:Nat}{a1:(List Int)}{a2:(List Int)}{r:Int}(hm:mf n a1 a2=some r):Fn Tryz.prog 172 [(.sl (a1.map D.i)),(.sl (a2.map D.i))] (.int .i64 r):=by
 unfold mf at hm
 refine aaT Tryz.func172 fun g0 w0 bR=>?_
 refine rs 0 [0,1] 0 ?_
 iterate 14 refine go ?_
 refine wc hm (fun bB hm=>?_) fun bB hm=>?_
 ·exact wk
 ·iterate 9 refine go ?_
  obtain⟨kA,av,en⟩:=aa hm
  refine lS 0 av (fun x=>[(0,.d (.sl (a1.map D.i))),(1,.d (.sl (a2.map D.i))),(5,.d (.int .i64 x.1)),(6,.d (.int .i64 x.2))]) (fun x=>[]) (mt 0) ?_
  rintro n1 ⟨s3,s4⟩ av
  obtain⟨dj,hm,av⟩:=aZ av
  dsimp only[iX] at hm
  iterate 7 refine go ?_
  refine wc hm (fun di hm=>?_) fun di hm=>?_
  ·iterate 7 refine go ?_
   obtain⟨JH,gr,oJ⟩:=aa hm
   refine lS 0 gr (fun x=>[(0,.d (.sl (a1.map D.i))),(1,.d (.sl (a2.map D.i))),(5,.d (.int .i64 x.1)),(6,.d (.int .i64 s4)),(7,.d (.int .i64 x.2))]) (fun x=>[]) (mt 0) ?_
   rintro n2 ⟨s5,s6⟩ gr
   obtain⟨xg,hm,gr⟩:=aZ gr
   dsimp only[ga] at hm
   iterate 7 refine go ?_
   refine wc hm (fun mq hm=>?_) fun mq hm=>?_
   ·refine go ?_
    obtain⟨iP,hm,hZ⟩:=aa hm
    refine AW.SG (α:=Int) 0 (fun x=>(.inr x)=iP) (fun x=>[(0,.d (.sl (a1.map D.i))),(1,.d (.sl (a2.map D.i))),(5,.d (.int .i64 x)),(6,.d (.int .i64 s4)),(7,.d (.int .i64 s6))]) (fun x=>[]) (aQ.g0 bR (by simp)) ?_ ?_
    ·skip
     refine go ?_
     refine AW.ml [([],[]),([],[]),([],[]),([],[]),([],[]),([],[]),([],[]),([],[]),([],[]),([],[])] mo (by decide+kernel) ?_
     iterate 2 refine go ?_
     obtain⟨v7,mE,hm⟩:=aa hm
     iterate 4 refine go ?_
     obtain⟨v8,oA,hm⟩:=aa hm
     iterate 11 refine go ?_
     refine wc hm (fun BS hm=>?_) fun BS hm=>?_
     ·iterate 4 refine go ?_
      obtain rfl:=si hm
      replace hm:=hZ
      exact wk
     ·iterate 9 refine go ?_
      refine wc hm (fun Cu hm=>?_) fun Cu hm=>?_
      ·refine rs 0 [0,1,6,7] 0 ?_
       exact wk
      ·exact wk
    ·rintro s9 rfl
     replace hm:=hZ
     exact wk
   ·exact wk
  ·exact wk
instance:CF 172:=⟨Tryz.call172,@qY⟩
theorem jQ{n:Nat}{a1:(List (List UInt8))}{a2:(List (List UInt8))}{a3:Bool}{a4:Int}{r:Int}(hm:gZ n a1 a2 a3 a4=some r):Fn Tryz.prog 173 [(.sl (a1.map D.str)),(.sl (a2.map D.str)),(.bool a3),(.int .i64 a4)] (.int .i64 r):=by
 unfold gZ at hm
 refine aaT Tryz.func173 fun g0 w0 bR=>?_
 iterate 16 refine go ?_
 refine wc hm (fun bB hm=>?_) fun bB hm=>?_
 ·refine rs 0 [] 0 ?_
  exact wk
 ·exact wk
instance:CF 173:=⟨Tryz.call173,@jQ⟩
end Go.Proofs.YtjdnbobilgamdaaGreatDoor.Ab
