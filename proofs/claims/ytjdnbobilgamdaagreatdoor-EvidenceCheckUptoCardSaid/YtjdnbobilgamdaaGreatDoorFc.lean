/- The functions do what they are in plain Lean. Conditions: none. -/
import Derived.Test.YtjdnbobilgamdaaGreatDoorTg
import Derived.Test.YtjdnbobilgamdaaGreatDoorMi
import Derived.Test.YtjdnbobilgamdaaGreatDoorFb
set_option maxRecDepth 100000
set_option maxHeartbeats 20000000
namespace Go.Proofs.YtjdnbobilgamdaaGreatDoor.Ab
open Go
attribute [local irreducible] bj AL AD AW tE zT lT
theorem oN{n:Nat}{a1:(List UInt8)}{a2:(List UInt8)}{r:Bool}(hm:jq n a1 a2=some r):Fn Tryz.prog 110 [(.str a1),(.str a2)] (.bool r):=by
 unfold jq at hm
 refine aaT Tryz.func110 fun g0 w0 bR=>?_
 exact wk
instance:CF 110:=⟨Tryz.call110,@oN⟩
theorem gu{n:Nat}{a1:Bool}{a2:Bool}{r:Int}(hm:dw n a1 a2=some r):Fn Tryz.prog 107 [(.bool a1),(.bool a2)] (.int .i64 r):=by
 unfold dw at hm
 refine aaT Tryz.func107 fun g0 w0 bR=>?_
 iterate 9 refine go ?_
 refine wc hm (fun bB hm=>?_) fun bB hm=>?_
 ·exact wk
 ·exact wk
instance:CF 107:=⟨Tryz.call107,@gu⟩
theorem np{n:Nat}{H:List HE}{a1:(List Int)}{p2:Int→Option Bool}{r:Int}{bu:FuncId}{bw:List V}(dQ:∀ (a:Array Value) (w:World),(callFunc bu a).run Tryz.prog w=.ok (.enter bu a) w)(gq:∀ (y1:Int) (b:Bool),p2 y1=some b→aJ Tryz.prog bu (.d (.int .i64 y1)::bw) H fun r' H'=>r'=.d (.bool b)∧H'=H)(hm:fm n a1 p2=some r):aJ Tryz.prog 150 [.d (.sl (a1.map D.i)),.fn (.func bu) bw] H fun r' H'=>r'=.d (.int .i64 r)∧H'=H:=by
 unfold fm at hm
 refine aaU Tryz.func150 fun g0 w0 bR=>?_
 iterate 10 refine go ?_
 obtain⟨kA,av,en⟩:=aa hm
 refine AW.vZ (σ:=Int) (τ:=(Int⊕Unit)) [0,1,7] (fun x=>[(8,.d (.int .i64 x))]) av ⟨by first|exact .of rfl|exact .d rfl,trivial⟩ ?_
 rintro n1 s3 av
 obtain⟨dj,hm,av⟩:=aZ av
 dsimp only[ev] at hm
 iterate 4 refine go ?_
 refine wc hm (fun bB hm=>?_) fun bB hm=>?_
 ·iterate 11 refine go ?_
  obtain⟨v4,ir,hm⟩:=aa hm
  iterate 2 refine go ?_
  obtain⟨v5,jL,hm⟩:=aa hm
  refine AL.s rfl (bZ dQ .r (.cons .r .nil) (gq _ _ jL)) ?_
  refine go ?_
  refine wc hm (fun di hm=>?_) fun di hm=>?_
  ·exact wk
  ·iterate 5 refine go ?_
   obtain rfl:=si hm
   exact Exists.intro _ ⟨av,⟨by first|exact .of rfl|exact .d rfl,trivial⟩,⟨rfl,rfl,rfl,trivial⟩,rfl⟩
 ·exact wk
theorem ez{n:Nat}{H:List HE}{a1:(List Int)}{p2:Int→Option Bool}{r:Bool}{bu:FuncId}{bw:List V}(dQ:∀ (a:Array Value) (w:World),(callFunc bu a).run Tryz.prog w=.ok (.enter bu a) w)(gq:∀ (y1:Int) (b:Bool),p2 y1=some b→aJ Tryz.prog bu (.d (.int .i64 y1)::bw) H fun r' H'=>r'=.d (.bool b)∧H'=H)(hm:a_ n a1 p2=some r):aJ Tryz.prog 116 [.d (.sl (a1.map D.i)),.fn (.func bu) bw] H fun r' H'=>r'=.d (.bool r)∧H'=H:=by
 unfold a_ at hm
 refine aaU Tryz.func116 fun g0 w0 bR=>?_
 iterate 6 refine go ?_
 obtain⟨v3,iw,hm⟩:=aa hm
 refine AL.s rfl (bZ Tryz.call150 .r (.cons .r (.cons .r .nil)) (np dQ gq iw)) ?_
 exact wk
theorem qT{n:Nat}{a1:Int}{c2:(List Int)}{r:Bool}(hm:dV n a1 c2=some r):Lt Tryz.prog 153 [.d (.int .i64 a1),.ptr 0 0] [.row [.d (.sl (c2.map D.i))]] (.bool r):=by
 unfold dV at hm
 refine aaU Tryz.func153 fun g0 w0 bR=>?_
 exact wk
theorem nA{n:Nat}{a1:(List Int)}{a2:(List Int)}{r:Bool}(hm:gj n a1 a2=some r):Fn Tryz.prog 111 [(.sl (a1.map D.i)),(.sl (a2.map D.i))] (.bool r):=by
 unfold gj at hm
 refine aaT Tryz.func111 fun g0 w0 bR=>?_
 refine go ?_
 refine AL.s rfl (cW (n:=0) .r rfl rfl rfl) ?_
 iterate 4 refine go ?_
 refine AL.s rfl (mz (.cons .r .nil)) ?_
 obtain⟨v3,iw,hm⟩:=aa hm
 refine AL.s rfl (bZ Tryz.call116 .r (.cons .r (.cons .r .nil)) (ez Tryz.call153 (fun _ _ hb=>Lt.at [0] (qT hb) (.cons rfl rfl .nil) (.cons (.d _) (.cons (.ptr rfl) .nil)) rfl) iw)) ?_
 exact wk
instance:CF 111:=⟨Tryz.call111,@nA⟩
theorem qU{n:Nat}{a1:Int}{c2:(List Int)}{r:Bool}(hm:dW n a1 c2=some r):Lt Tryz.prog 154 [.d (.int .i64 a1),.ptr 0 0] [.row [.d (.sl (c2.map D.i))]] (.bool r):=by
 unfold dW at hm
 refine aaU Tryz.func154 fun g0 w0 bR=>?_
 exact wk
theorem nB{n:Nat}{a1:(List Int)}{a2:(List Int)}{r:Bool}(hm:gk n a1 a2=some r):Fn Tryz.prog 112 [(.sl (a1.map D.i)),(.sl (a2.map D.i))] (.bool r):=by
 unfold gk at hm
 refine aaT Tryz.func112 fun g0 w0 bR=>?_
 refine go ?_
 refine AL.s rfl (cW (n:=0) .r rfl rfl rfl) ?_
 iterate 4 refine go ?_
 refine AL.s rfl (mz (.cons .r .nil)) ?_
 obtain⟨v3,iw,hm⟩:=aa hm
 refine AL.s rfl (bZ Tryz.call116 .r (.cons .r (.cons .r .nil)) (ez Tryz.call154 (fun _ _ hb=>Lt.at [0] (qU hb) (.cons rfl rfl .nil) (.cons (.d _) (.cons (.ptr rfl) .nil)) rfl) iw)) ?_
 exact wk
instance:CF 112:=⟨Tryz.call112,@nB⟩
theorem ny{n:Nat}{a1:(List (List UInt8))}{a2:(List UInt8)}{r:Int}(hm:fI n a1 a2=some r):Fn Tryz.prog 223 [(.sl (a1.map D.str)),(.str a2)] (.int .i64 r):=by
 unfold fI at hm
 refine aaT Tryz.func223 fun g0 w0 bR=>?_
 refine rs 0 [0,1] 0 ?_
 iterate 10 refine go ?_
 obtain⟨kA,av,en⟩:=aa hm
 refine lS 0 av (fun x=>[(0,.d (.sl (a1.map D.str))),(1,.d (.str a2)),(7,.d (.int .i64 (a1.length:Int))),(8,.d (.int .i64 x))]) (fun x=>[]) (mt 0) ?_
 rintro n1 s3 av
 obtain⟨dj,hm,av⟩:=aZ av
 dsimp only[eH] at hm
 iterate 4 refine go ?_
 refine wc hm (fun bB hm=>?_) fun bB hm=>?_
 ·exact wk
 ·exact wk
instance:CF 223:=⟨Tryz.call223,@ny⟩
theorem mr{n:Nat}{a1:(List (List UInt8))}{a2:(List UInt8)}{r:Bool}(hm:dp n a1 a2=some r):Fn Tryz.prog 156 [(.sl (a1.map D.str)),(.str a2)] (.bool r):=by
 unfold dp at hm
 refine aaT Tryz.func156 fun g0 w0 bR=>?_
 exact wk
instance:CF 156:=⟨Tryz.call156,@mr⟩
theorem pF{n:Nat}{a1:(List UInt8)}{c2:(List (List UInt8))}{r:Bool}(hm:dh n a1 c2=some r):Lt Tryz.prog 155 [.d (.str a1),.ptr 0 0] [.row [.d (.sl (c2.map D.str))]] (.bool r):=by
 unfold dh at hm
 refine aaU Tryz.func155 fun g0 w0 bR=>?_
 exact wk
theorem l7{n:Nat}{a1:(List (List UInt8))}{a2:(List (List UInt8))}{r:Bool}(hm:cX n a1 a2=some r):Fn Tryz.prog 113 [(.sl (a1.map D.str)),(.sl (a2.map D.str))] (.bool r):=by
 unfold cX at hm
 refine aaT Tryz.func113 fun g0 w0 bR=>?_
 refine go ?_
 refine AL.s rfl (cW (n:=0) .r rfl rfl rfl) ?_
 iterate 4 refine go ?_
 refine AL.s rfl (mz (.cons .r .nil)) ?_
 obtain⟨v3,iw,hm⟩:=aa hm
 refine AL.s rfl (bZ Tryz.call40 .r (.cons .r (.cons .r .nil)) (fi Tryz.call155 (fun _ _ hb=>Lt.at [0] (pF hb) (.cons rfl rfl .nil) (.cons (.d _) (.cons (.ptr rfl) .nil)) rfl) iw)) ?_
 exact wk
instance:CF 113:=⟨Tryz.call113,@l7⟩
theorem vB{n:Nat}{a1:af}{a2:af}{r:(A7×Int)}(hm:jz n a1 a2=some r):Fn Tryz.prog 61 [(af.e a1),(af.e a2)] (.gd [(A7.e r.1),(.int .i64 r.2)]):=by
 unfold jz at hm
 refine aaT Tryz.func61 fun g0 w0 bR=>?_
 refine rs 0 [0,1] 0 ?_
 refine go ?_
 refine AL.s rfl (cW (n:=0) .r rfl rfl rfl) ?_
 refine AL.s rfl (cW (n:=1) .r rfl rfl rfl) ?_
 refine AL.s rfl (bE (n:=2) N7 rfl) ?_
 iterate 5 refine go ?_
 obtain⟨v3,iw,hm⟩:=aa hm
 iterate 4 refine go ?_
 obtain⟨v4,ir,hm⟩:=aa hm
 iterate 4 refine go ?_
 refine wc hm (fun bB hm=>?_) fun bB hm=>?_
 ·refine go ?_
  refine AL.s rfl (mu TO .nil) ?_
  iterate 4 refine go ?_
  obtain rfl:=si hm
  exact kg.d (.mS .r rfl rfl rfl QK (.tmp .r .nil)) rfl rfl
 ·iterate 2 refine go ?_
  refine AL.s rfl (bE (n:=3) N7 rfl) ?_
  refine go ?_
  obtain⟨iP,hm,hZ⟩:=aa hm
  refine cS (t:=iP) 0 (fun x=>[(2,.ptr 0 0),(3,.ptr 1 0),(4,.ptr 2 0),(6,.ptr 3 0)]) (fun x=>[.row ((af.e a1).cells.map .d),.row ((af.e a2).cells.map .d),.row [.d (.int .i64 (0:Int)),.d (.int .i64 (0:Int)),.d (.int .i64 (0:Int)),.d (.int .i64 (0:Int)),.d (.int .i64 (0:Int)),.d (.int .i64 (0:Int)),.d (.int .i64 (0:Int))],.row [.d (.int .i64 x.e0),.d (.int .i64 x.e1),.d (.int .i64 x.e2),.d (.int .i64 x.e3),.d (.int .i64 x.e4),.d (.int .i64 x.e5),.d (.int .i64 x.e6)]]) ?_ ?_
  ·skip
   refine rs 0 [2,3,4,6] 4 ?_
   iterate 12 refine go ?_
   refine wc hm (fun di hm=>?_) fun di hm=>?_
   ·refine AW.drawn [([],[]),([0],[]),([],[]),([1],[]),([],[]),([],[]),([0],[]),([],[]),([1],[]),([],[]),([],[]),([],[]),([0],[]),([],[]),([],[]),([1],[]),([],[]),([],[]),([],[]),([],[]),([],[]),([3],[3])] mo (by decide+kernel) ?_
    iterate 4 refine go ?_
    obtain⟨v5,jL,hm⟩:=aa hm
    refine AD.s (ws:=[]) rfl rfl (fun _ _ hH=>cb Tryz.call108 .r (.cons (.r rfl) (.cons (.r rfl) .nil)) (eG jL)) ?_
    iterate 4 refine go ?_
    obtain⟨v6,oz,hm⟩:=aa hm
    refine AD.s (ws:=[]) rfl rfl (fun _ _ hH=>cb Tryz.call109 .r (.cons (.r rfl) (.cons (.r rfl) .nil)) (nz oz)) ?_
    iterate 3 refine go ?_
    obtain⟨v7,mE,hm⟩:=aa hm
    refine AD.sF rfl rfl rfl rfl (fun g _ _ hH=>cb Tryz.call34 .r (.cons (.we (nt g) rfl rfl) (.cons (.r rfl) .nil)) (Gz (fU (nt g) mE))) ?_
    iterate 2 refine go ?_
    obtain⟨v8,oA,hm⟩:=aa hm
    refine AD.sF rfl rfl rfl rfl (fun g _ _ hH=>cb Tryz.call34 .r (.cons (.we (nt g) rfl rfl) (.cons (.r rfl) .nil)) (Gz (fU (nt g) oA))) ?_
    obtain⟨v9,pR,hm⟩:=aa hm
    refine AD.sF rfl rfl rfl rfl (fun g _ _ hH=>cb Tryz.call110 .r (.cons (.we (nt g) rfl rfl) (.cons (.we (nt g) rfl rfl) .nil)) (oN (fU (nt g) pR))) ?_
    refine go ?_
    obtain⟨v10,lC,hm⟩:=aa hm
    refine AD.s (ws:=[]) rfl rfl (fun _ _ hH=>cb Tryz.call107 .r (.cons (.r rfl) (.cons (.r rfl) .nil)) (gu lC)) ?_
    refine AD.s (ws:=[]) rfl rfl (fun _ _ hH=>dS (i:=0) .r (.r rfl) rfl (by decide) Tryz.underlying37 ⟨_,rfl,rfl⟩) ?_
    exact wk
   ·exact wk
  ·rintro i_ rfl
   replace hm:=hZ
   try dsimp only at hm
   obtain⟨EE,hm,EF⟩:=aa hm
   refine cS (t:=EE) 0 (fun x=>[(2,.ptr 0 0),(3,.ptr 1 0),(4,.ptr 2 0),(6,.ptr 3 0)]) (fun x=>[.row ((af.e a1).cells.map .d),.row ((af.e a2).cells.map .d),.row [.d (.int .i64 (0:Int)),.d (.int .i64 (0:Int)),.d (.int .i64 (0:Int)),.d (.int .i64 (0:Int)),.d (.int .i64 (0:Int)),.d (.int .i64 (0:Int)),.d (.int .i64 (0:Int))],.row [.d (.int .i64 x.e0),.d (.int .i64 x.e1),.d (.int .i64 x.e2),.d (.int .i64 x.e3),.d (.int .i64 x.e4),.d (.int .i64 x.e5),.d (.int .i64 x.e6)]]) ?_ ?_
   ·skip
    iterate 10 refine go ?_
    refine wc hm (fun mq hm=>?_) fun mq hm=>?_
    ·refine AW.drawn [([],[]),([0],[]),([],[]),([1],[]),([],[]),([],[]),([0],[]),([],[]),([1],[]),([],[]),([],[]),([],[]),([3],[3])] mo (by decide+kernel) ?_
     iterate 9 refine go ?_
     obtain⟨v12,pc,hm⟩:=aa hm
     refine AD.s (ws:=[]) rfl rfl (fun _ _ hH=>cb Tryz.call110 .r (.cons (.r rfl) (.cons (.r rfl) .nil)) (oN pc)) ?_
     obtain⟨qs,xh,hm⟩:=aa hm
     refine AD.s (ws:=[]) rfl rfl (fun _ _ hH=>cb Tryz.call107 .r (.cons (.r rfl) (.cons (.r rfl) .nil)) (gu xh)) ?_
     refine AD.s (ws:=[]) rfl rfl (fun _ _ hH=>dS (i:=1) .r (.r rfl) rfl (by decide) Tryz.underlying37 ⟨_,rfl,rfl⟩) ?_
     exact wk
    ·exact wk
   ·rintro K8 rfl
    replace hm:=EF
    try dsimp only at hm
    obtain⟨TP,hm,TQ⟩:=aa hm
    refine cS (t:=TP) 0 (fun x=>[(2,.ptr 0 0),(3,.ptr 1 0),(4,.ptr 2 0),(6,.ptr 3 0)]) (fun x=>[.row ((af.e a1).cells.map .d),.row ((af.e a2).cells.map .d),.row [.d (.int .i64 (0:Int)),.d (.int .i64 (0:Int)),.d (.int .i64 (0:Int)),.d (.int .i64 (0:Int)),.d (.int .i64 (0:Int)),.d (.int .i64 (0:Int)),.d (.int .i64 (0:Int))],.row [.d (.int .i64 x.e0),.d (.int .i64 x.e1),.d (.int .i64 x.e2),.d (.int .i64 x.e3),.d (.int .i64 x.e4),.d (.int .i64 x.e5),.d (.int .i64 x.e6)]]) ?_ ?_
    ·skip
     iterate 12 refine go ?_
     refine wc hm (fun BS hm=>?_) fun BS hm=>?_
     ·refine AW.drawn [([],[]),([0],[]),([],[]),([1],[]),([],[]),([],[]),([0],[]),([],[]),([1],[]),([],[]),([],[]),([],[]),([3],[3])] mo (by decide+kernel) ?_
      iterate 4 refine go ?_
      obtain⟨uM,rH,hm⟩:=aa hm
      refine AD.s (ws:=[]) rfl rfl (fun _ _ hH=>cb Tryz.call111 .r (.cons (.r rfl) (.cons (.r rfl) .nil)) (nA rH)) ?_
      iterate 4 refine go ?_
      obtain⟨xB,zy,hm⟩:=aa hm
      refine AD.s (ws:=[]) rfl rfl (fun _ _ hH=>cb Tryz.call112 .r (.cons (.r rfl) (.cons (.r rfl) .nil)) (nB zy)) ?_
      obtain⟨v17,Gx,hm⟩:=aa hm
      refine AD.s (ws:=[]) rfl rfl (fun _ _ hH=>cb Tryz.call107 .r (.cons (.r rfl) (.cons (.r rfl) .nil)) (gu Gx)) ?_
      refine AD.s (ws:=[]) rfl rfl (fun _ _ hH=>dS (i:=2) .r (.r rfl) rfl (by decide) Tryz.underlying37 ⟨_,rfl,rfl⟩) ?_
      exact wk
     ·exact wk
    ·rintro s18 rfl
     replace hm:=TQ
     try dsimp only at hm
     obtain⟨Zw,hm,Zx⟩:=aa hm
     refine cS (t:=Zw) 0 (fun x=>[(2,.ptr 0 0),(3,.ptr 1 0),(4,.ptr 2 0),(6,.ptr 3 0)]) (fun x=>[.row ((af.e a1).cells.map .d),.row ((af.e a2).cells.map .d),.row [.d (.int .i64 (0:Int)),.d (.int .i64 (0:Int)),.d (.int .i64 (0:Int)),.d (.int .i64 (0:Int)),.d (.int .i64 (0:Int)),.d (.int .i64 (0:Int)),.d (.int .i64 (0:Int))],.row [.d (.int .i64 x.e0),.d (.int .i64 x.e1),.d (.int .i64 x.e2),.d (.int .i64 x.e3),.d (.int .i64 x.e4),.d (.int .i64 x.e5),.d (.int .i64 x.e6)]]) ?_ ?_
     ·skip
      iterate 12 refine go ?_
      refine wc hm (fun Cu hm=>?_) fun Cu hm=>?_
      ·iterate 5 refine go ?_
       obtain⟨zz,Io,hm⟩:=aa hm
       refine go ?_
       obtain⟨v20,N5,hm⟩:=aa hm
       refine go ?_
       refine AL.s rfl (dS (i:=3) .r (.r rfl) rfl (by decide) Tryz.underlying37 ⟨_,rfl,rfl⟩) ?_
       exact wk
      ·exact wk
     ·rintro s21 rfl
      replace hm:=Zx
      try dsimp only at hm
      obtain⟨Zy,hm,Zz⟩:=aa hm
      refine cS (t:=Zy) 0 (fun x=>[(2,.ptr 0 0),(3,.ptr 1 0),(4,.ptr 2 0),(6,.ptr 3 0)]) (fun x=>[.row ((af.e a1).cells.map .d),.row ((af.e a2).cells.map .d),.row [.d (.int .i64 (0:Int)),.d (.int .i64 (0:Int)),.d (.int .i64 (0:Int)),.d (.int .i64 (0:Int)),.d (.int .i64 (0:Int)),.d (.int .i64 (0:Int)),.d (.int .i64 (0:Int))],.row [.d (.int .i64 x.e0),.d (.int .i64 x.e1),.d (.int .i64 x.e2),.d (.int .i64 x.e3),.d (.int .i64 x.e4),.d (.int .i64 x.e5),.d (.int .i64 x.e6)]]) ?_ ?_
      ·skip
       iterate 12 refine go ?_
       refine wc hm (fun QQ hm=>?_) fun QQ hm=>?_
       ·iterate 5 refine go ?_
        obtain⟨v22,Il,hm⟩:=aa hm
        refine go ?_
        obtain⟨v23,TR,hm⟩:=aa hm
        refine go ?_
        refine AL.s rfl (dS (i:=4) .r (.r rfl) rfl (by decide) Tryz.underlying37 ⟨_,rfl,rfl⟩) ?_
        exact wk
       ·exact wk
      ·rintro s24 rfl
       replace hm:=Zz
       try dsimp only at hm
       obtain⟨ZA,hm,ZB⟩:=aa hm
       refine cS (t:=ZA) 0 (fun x=>[(2,.ptr 0 0),(3,.ptr 1 0),(4,.ptr 2 0),(6,.ptr 3 0)]) (fun x=>[.row ((af.e a1).cells.map .d),.row ((af.e a2).cells.map .d),.row [.d (.int .i64 (0:Int)),.d (.int .i64 (0:Int)),.d (.int .i64 (0:Int)),.d (.int .i64 (0:Int)),.d (.int .i64 (0:Int)),.d (.int .i64 (0:Int)),.d (.int .i64 (0:Int))],.row [.d (.int .i64 x.e0),.d (.int .i64 x.e1),.d (.int .i64 x.e2),.d (.int .i64 x.e3),.d (.int .i64 x.e4),.d (.int .i64 x.e5),.d (.int .i64 x.e6)]]) ?_ ?_
       ·skip
        iterate 12 refine go ?_
        refine wc hm (fun N8 hm=>?_) fun N8 hm=>?_
        ·refine AW.drawn [([],[]),([0],[]),([],[]),([1],[]),([],[]),([],[]),([0],[]),([],[]),([1],[]),([],[]),([],[]),([],[]),([3],[3])] mo (by decide+kernel) ?_
         iterate 4 refine go ?_
         obtain⟨v25,K9,hm⟩:=aa hm
         refine AD.s (ws:=[]) rfl rfl (fun _ _ hH=>cb Tryz.call108 .r (.cons (.r rfl) (.cons (.r rfl) .nil)) (eG K9)) ?_
         iterate 4 refine go ?_
         obtain⟨v26,QO,hm⟩:=aa hm
         refine AD.s (ws:=[]) rfl rfl (fun _ _ hH=>cb Tryz.call113 .r (.cons (.r rfl) (.cons (.r rfl) .nil)) (l7 QO)) ?_
         obtain⟨US,N6,hm⟩:=aa hm
         refine AD.s (ws:=[]) rfl rfl (fun _ _ hH=>cb Tryz.call107 .r (.cons (.r rfl) (.cons (.r rfl) .nil)) (gu N6)) ?_
         refine AD.s (ws:=[]) rfl rfl (fun _ _ hH=>dS (i:=5) .r (.r rfl) rfl (by decide) Tryz.underlying37 ⟨_,rfl,rfl⟩) ?_
         exact wk
        ·exact wk
       ·rintro s28 rfl
        replace hm:=ZB
        try dsimp only at hm
        obtain⟨ZC,hm,ZD⟩:=aa hm
        refine cS (t:=ZC) 0 (fun x=>[(4,.ptr 2 0),(6,.ptr 3 0)]) (fun x=>[.row ((af.e a1).cells.map .d),.row ((af.e a2).cells.map .d),.row [.d (.int .i64 (0:Int)),.d (.int .i64 (0:Int)),.d (.int .i64 (0:Int)),.d (.int .i64 (0:Int)),.d (.int .i64 (0:Int)),.d (.int .i64 (0:Int)),.d (.int .i64 (0:Int))],.row [.d (.int .i64 x.e0),.d (.int .i64 x.e1),.d (.int .i64 x.e2),.d (.int .i64 x.e3),.d (.int .i64 x.e4),.d (.int .i64 x.e5),.d (.int .i64 x.e6)]]) ?_ ?_
        ·skip
         iterate 12 refine go ?_
         refine wc hm (fun hc8 hm=>?_) fun hc8 hm=>?_
         ·iterate 5 refine go ?_
          obtain⟨UT,QP,hm⟩:=aa hm
          refine go ?_
          obtain⟨v30,ZE,hm⟩:=aa hm
          refine go ?_
          refine AL.s rfl (dS (i:=6) .r (.r rfl) rfl (by decide) Tryz.underlying37 ⟨_,rfl,rfl⟩) ?_
          exact wk
         ·exact wk
        ·rintro s31 rfl
         replace hm:=ZD
         try dsimp only at hm
         iterate 6 refine go ?_
         obtain rfl:=si hm
         exact kg.d (.mS .r rfl rfl rfl QK (.tmp .r .nil)) rfl rfl
instance:CF 61:=⟨Tryz.call61,@vB⟩
theorem qV{n:Nat}{a1:tf}{r:ej}(hm:qt n a1=some r):Fn Tryz.prog 64 [(tf.e a1)] (ej.e r):=by
 unfold qt at hm
 refine aaT Tryz.func64 fun g0 w0 bR=>?_
 refine rs 0 [0] 0 ?_
 refine go ?_
 refine AL.s rfl (cW (n:=0) .r rfl rfl rfl) ?_
 refine AL.s rfl (bE (n:=1) QR rfl) ?_
 iterate 2 refine go ?_
 refine AL.s rfl (bE (n:=2) QR rfl) ?_
 iterate 7 refine go ?_
 obtain⟨kA,av,en⟩:=aa hm
 refine lS 0 av (fun x=>[(2,.ptr 1 0),(3,.ptr 2 0),(7,.d (tf.e a1)),(8,.d (.int .i64 x.1))]) (fun x=>[.row ((tf.e a1).cells.map .d),.row [.d (.int .i64 (0:Int)),.d (.int .i64 (0:Int)),.d (.int .i64 (0:Int)),.d (.int .i64 (0:Int)),.d (.int .i64 (0:Int)),.d (.int .i64 (0:Int)),.d (.int .i64 (0:Int)),.d (.int .i64 (0:Int)),.d (.int .i64 (0:Int)),.d (.int .i64 (0:Int)),.d (.int .i64 (0:Int)),.d (.int .i64 (0:Int)),.d (.int .i64 (0:Int)),.d (.int .i64 (0:Int)),.d (.int .i64 (0:Int)),.d (.int .i64 (0:Int)),.d (.int .i64 (0:Int)),.d (.int .i64 (0:Int)),.d (.int .i64 (0:Int)),.d (.int .i64 (0:Int)),.d (.int .i64 (0:Int)),.d (.int .i64 (0:Int)),.d (.int .i64 (0:Int)),.d (.int .i64 (0:Int)),.d (.int .i64 (0:Int)),.d (.int .i64 (0:Int)),.d (.int .i64 (0:Int)),.d (.int .i64 (0:Int)),.d (.int .i64 (0:Int)),.d (.int .i64 (0:Int)),.d (.int .i64 (0:Int)),.d (.int .i64 (0:Int)),.d (.int .i64 (0:Int)),.d (.int .i64 (0:Int)),.d (.int .i64 (0:Int)),.d (.int .i64 (0:Int)),.d (.int .i64 (0:Int)),.d (.int .i64 (0:Int)),.d (.int .i64 (0:Int)),.d (.int .i64 (0:Int)),.d (.int .i64 (0:Int)),.d (.int .i64 (0:Int))],.row ((ej.e x.2).cells.map .d)]) (mt 3) ?_
 rintro n1 ⟨s2,s3⟩ av
 obtain⟨dj,hm,av⟩:=aZ av
 dsimp only[nM] at hm
 iterate 4 refine go ?_
 refine wc hm (fun bB hm=>?_) fun bB hm=>?_
 ·iterate 5 refine go ?_
  obtain⟨v4,ir,hm⟩:=aa hm
  refine AL.s rfl (yW (f:=A6.e) (l:=a1.l) (s:=6) (.r rfl) rfl QS (.r rfl) ir rfl Tryz.underlying134 (.inr ⟨R1,fun _=>rfl⟩) ⟨_,rfl,rfl⟩) ?_
  refine AL.s rfl (bE (n:=3) N9 rfl) ?_
  iterate 7 refine go ?_
  obtain⟨JH,gr,oJ⟩:=aa hm
  refine lS 0 gr (fun x=>[(2,.ptr 1 0),(3,.ptr 2 0),(4,.d (.int .i64 s2)),(5,.ptr 3 0),(7,.d (tf.e a1)),(8,.d (.int .i64 s2)),(12,.d (.int .i64 x.1))]) (fun x=>[.row ((tf.e a1).cells.map .d),.row [.d (.int .i64 (0:Int)),.d (.int .i64 (0:Int)),.d (.int .i64 (0:Int)),.d (.int .i64 (0:Int)),.d (.int .i64 (0:Int)),.d (.int .i64 (0:Int)),.d (.int .i64 (0:Int)),.d (.int .i64 (0:Int)),.d (.int .i64 (0:Int)),.d (.int .i64 (0:Int)),.d (.int .i64 (0:Int)),.d (.int .i64 (0:Int)),.d (.int .i64 (0:Int)),.d (.int .i64 (0:Int)),.d (.int .i64 (0:Int)),.d (.int .i64 (0:Int)),.d (.int .i64 (0:Int)),.d (.int .i64 (0:Int)),.d (.int .i64 (0:Int)),.d (.int .i64 (0:Int)),.d (.int .i64 (0:Int)),.d (.int .i64 (0:Int)),.d (.int .i64 (0:Int)),.d (.int .i64 (0:Int)),.d (.int .i64 (0:Int)),.d (.int .i64 (0:Int)),.d (.int .i64 (0:Int)),.d (.int .i64 (0:Int)),.d (.int .i64 (0:Int)),.d (.int .i64 (0:Int)),.d (.int .i64 (0:Int)),.d (.int .i64 (0:Int)),.d (.int .i64 (0:Int)),.d (.int .i64 (0:Int)),.d (.int .i64 (0:Int)),.d (.int .i64 (0:Int)),.d (.int .i64 (0:Int)),.d (.int .i64 (0:Int)),.d (.int .i64 (0:Int)),.d (.int .i64 (0:Int)),.d (.int .i64 (0:Int)),.d (.int .i64 (0:Int))],.row ((ej.e x.2).cells.map .d),.row [.d (.int .i64 v4.e0),.d (.int .i64 v4.e1),.d (.int .i64 v4.e2),.d (.int .i64 v4.e3),.d (.int .i64 v4.e4),.d (.int .i64 v4.e5)]]) (mt 4) ?_
  rintro n2 ⟨s5,s6⟩ gr
  obtain⟨xg,hm,gr⟩:=aZ gr
  dsimp only[nN] at hm
  iterate 4 refine go ?_
  refine wc hm (fun di hm=>?_) fun di hm=>?_
  ·iterate 7 refine go ?_
   refine AW.drawn [([],[]),([],[]),([],[]),([],[]),([],[]),([3],[]),([],[]),([],[]),([],[]),([],[]),([3],[]),([],[]),([],[]),([],[]),([2],[2])] mo (by decide+kernel) ?_
   iterate 4 refine go ?_
   obtain⟨v7,mE,hm⟩:=aa hm
   refine AD.s (ws:=[]) rfl rfl (fun _ _ hH=>df (l:=v4.l) (s:=1) .r (.r rfl) mE rfl Tryz.underlying133 ⟨_,rfl,rfl⟩) ?_
   refine AD.s (ws:=[]) rfl rfl (fun _ _ hH=>kG (X:=(A6.e v4).cells) .r ((hH _ (by simp)).trans rfl) (lJ.ix (f:=D.i) (l:=v4.l) En.i (lJ.root:lJ (A6.e v4).cells 0 _ _) mE) mK) ?_
   iterate 3 refine go ?_
   obtain⟨v8,oA,hm⟩:=aa hm
   refine AD.s (ws:=[]) rfl rfl (fun _ _ hH=>df (l:=v4.l) (s:=1) .r (.r rfl) oA rfl Tryz.underlying133 ⟨_,rfl,rfl⟩) ?_
   refine AD.s (ws:=[]) rfl rfl (fun _ _ hH=>kG (X:=(A6.e v4).cells) .r ((hH _ (by simp)).trans rfl) (lJ.ix (f:=D.i) (l:=v4.l) En.i (lJ.root:lJ (A6.e v4).cells 0 _ _) oA) mK) ?_
   refine AD.s (ws:=[]) rfl rfl (fun _ _ hH=>od WV (.cons .r rfl rfl rfl rfl (aaR rfl) (.cons .r rfl rfl rfl rfl (aaR rfl) .nil))) ?_
   obtain⟨v9,pR,hm⟩:=aa hm
   refine AD.s (ws:=[]) rfl rfl (fun _ _ hH=>df (l:=s6.l) (s:=6) .r (.r rfl) pR rfl Tryz.underlying88 ⟨_,rfl,rfl⟩) ?_
   obtain⟨v10,lC,hm⟩:=aa hm
   refine AD.s (ws:=[]) rfl rfl (fun _ _ hH=>df (l:=v9.l) (s:=2) .r (.r rfl) lC rfl Tryz.underlying86 ⟨_,rfl,rfl⟩) ?_
   obtain⟨v11,nw,hm⟩:=aa hm
   obtain⟨v12,pc,hm⟩:=aa hm
   refine AD.s (ws:=[(2,_)]) rfl rfl (fun _ _ hH=>AT (X:=(ej.e s6).cells) (X':=(ej.e v12).cells) .r .r ((hH _ (by simp)).trans rfl) (lJ.ix (f:=ah.e) (l:=v9.l) gv (lJ.ix (f:=A3.e) (l:=s6.l) BT (lJ.root:lJ (ej.e s6).cells 0 _ _) pR) lC) (wz.ix (f:=ah.e) (l:=v9.l) (l':=v11.l) gv (lJ.ix (f:=A3.e) (l:=s6.l) BT (lJ.root:lJ (ej.e s6).cells 0 _ _) pR) (wz.ix (f:=A3.e) (l:=s6.l) (l':=v12.l) BT (lJ.root:lJ (ej.e s6).cells 0 _ _) (wz.root rfl:wz (ej.e s6).cells 0 _ _ (ej.e v12).cells) (ej.zf pc)) (A3.zf nw)) rfl rfl ⟨_,rfl,rfl⟩) ?_
   iterate 5 refine go ?_
   obtain rfl:=si hm
   exact nx gr (mt 4)
  ·refine go ?_
   obtain rfl:=si hm
   obtain rfl:=si gr
   replace hm:=oJ
   try dsimp only at hm
   iterate 4 refine go ?_
   obtain rfl:=si hm
   exact nx av (mt 3)
 ·refine go ?_
  obtain rfl:=si hm
  obtain rfl:=si av
  replace hm:=en
  try dsimp only at hm
  iterate 5 refine go ?_
  obtain rfl:=si hm
  exact kg.d (.mS .r rfl rfl rfl TS .nil) rfl rfl
instance:CF 64:=⟨Tryz.call64,@qV⟩
theorem qW{n:Nat}{r:ej}(hm:nV n=some r):Fn Tryz.prog 32 [] (ej.e r):=by
 unfold nV at hm
 refine aaT Tryz.func32 fun g0 w0 bR=>?_
 refine go ?_
 refine AL.s rfl (bE (n:=0) QR rfl) ?_
 iterate 2 refine go ?_
 refine AL.s rfl (bY pG (.cons .r rfl rfl rfl rfl (aaR rfl) (.cons .r rfl rfl rfl rfl (aaR rfl) (.cons .r rfl rfl rfl rfl (aaR rfl) (.cons .r rfl rfl rfl rfl (aaR rfl) (.cons .r rfl rfl rfl rfl (aaR rfl) (.cons .r rfl rfl rfl rfl (aaR rfl) .nil)))))) rfl rfl) ?_
 refine AL.s rfl (bY pG (.cons .r rfl rfl rfl rfl (aaR rfl) (.cons .r rfl rfl rfl rfl (aaR rfl) (.cons .r rfl rfl rfl rfl (aaR rfl) (.cons .r rfl rfl rfl rfl (aaR rfl) (.cons .r rfl rfl rfl rfl (aaR rfl) (.cons .r rfl rfl rfl rfl (aaR rfl) .nil)))))) rfl rfl) ?_
 refine AL.s rfl (bY pG (.cons .r rfl rfl rfl rfl (aaR rfl) (.cons .r rfl rfl rfl rfl (aaR rfl) (.cons .r rfl rfl rfl rfl (aaR rfl) (.cons .r rfl rfl rfl rfl (aaR rfl) (.cons .r rfl rfl rfl rfl (aaR rfl) (.cons .r rfl rfl rfl rfl (aaR rfl) .nil)))))) rfl rfl) ?_
 refine AL.s rfl (bY pG (.cons .r rfl rfl rfl rfl (aaR rfl) (.cons .r rfl rfl rfl rfl (aaR rfl) (.cons .r rfl rfl rfl rfl (aaR rfl) (.cons .r rfl rfl rfl rfl (aaR rfl) (.cons .r rfl rfl rfl rfl (aaR rfl) (.cons .r rfl rfl rfl rfl (aaR rfl) .nil)))))) rfl rfl) ?_
 refine AL.s rfl (bY pG (.cons .r rfl rfl rfl rfl (aaR rfl) (.cons .r rfl rfl rfl rfl (aaR rfl) (.cons .r rfl rfl rfl rfl (aaR rfl) (.cons .r rfl rfl rfl rfl (aaR rfl) (.cons .r rfl rfl rfl rfl (aaR rfl) (.cons .r rfl rfl rfl rfl (aaR rfl) .nil)))))) rfl rfl) ?_
 refine AL.s rfl (bY pG (.cons .r rfl rfl rfl rfl (aaR rfl) (.cons .r rfl rfl rfl rfl (aaR rfl) (.cons .r rfl rfl rfl rfl (aaR rfl) (.cons .r rfl rfl rfl rfl (aaR rfl) (.cons .r rfl rfl rfl rfl (aaR rfl) (.cons .r rfl rfl rfl rfl (aaR rfl) .nil)))))) rfl rfl) ?_
 refine AL.s rfl (bY pG (.cons .r rfl rfl rfl rfl (aaR rfl) (.cons .r rfl rfl rfl rfl (aaR rfl) (.cons .r rfl rfl rfl rfl (aaR rfl) (.cons .r rfl rfl rfl rfl (aaR rfl) (.cons .r rfl rfl rfl rfl (aaR rfl) (.cons .r rfl rfl rfl rfl (aaR rfl) .nil)))))) rfl rfl) ?_
 refine AL.s rfl (bY N_ (.cons .r rfl rfl rfl rfl (aaR rfl) (.cons .r rfl rfl rfl rfl (aaR rfl) (.cons .r rfl rfl rfl rfl (aaR rfl) (.cons .r rfl rfl rfl rfl (aaR rfl) (.cons .r rfl rfl rfl rfl (aaR rfl) (.cons .r rfl rfl rfl rfl (aaR rfl) (.cons .r rfl rfl rfl rfl (aaR rfl) .nil))))))) rfl rfl) ?_
 obtain⟨v1,SQ,hm⟩:=aa hm
 refine AL.s rfl (cb Tryz.call64 .r (.cons (.r rfl) .nil) (qV SQ)) ?_
 iterate 3 refine go ?_
 obtain rfl:=si hm
 exact kg.d (.mS .r rfl rfl rfl TS .nil) rfl rfl
instance:CF 32:=⟨Tryz.call32,@qW⟩
theorem gW{n:Nat}{H:List HE}{a1:(List A3)}{p2:A3→Option Bool}{r:Int}{bu:FuncId}{bw:List V}(dQ:∀ (a:Array Value) (w:World),(callFunc bu a).run Tryz.prog w=.ok (.enter bu a) w)(gq:∀ (y1:A3) (b:Bool),p2 y1=some b→aJ Tryz.prog bu (.d (A3.e y1)::bw) H fun r' H'=>r'=.d (.bool b)∧H'=H)(hm:ct n a1 p2=some r):aJ Tryz.prog 232 [.d (.sl (a1.map A3.e)),.fn (.func bu) bw] H fun r' H'=>r'=.d (.int .i64 r)∧H'=H:=by
 unfold ct at hm
 refine aaU Tryz.func232 fun g0 w0 bR=>?_
 iterate 10 refine go ?_
 obtain⟨kA,av,en⟩:=aa hm
 refine AW.vZ (σ:=Int) (τ:=(Int⊕Unit)) [0,1,7] (fun x=>[(8,.d (.int .i64 x))]) av ⟨by first|exact .of rfl|exact .d rfl,trivial⟩ ?_
 rintro n1 s3 av
 obtain⟨dj,hm,av⟩:=aZ av
 dsimp only[b8] at hm
 iterate 4 refine go ?_
 refine wc hm (fun bB hm=>?_) fun bB hm=>?_
 ·iterate 11 refine go ?_
  obtain⟨v4,ir,hm⟩:=aa hm
  iterate 2 refine go ?_
  obtain⟨v5,jL,hm⟩:=aa hm
  refine AL.s rfl (bZ dQ .r (.cons .r .nil) (gq _ _ jL)) ?_
  refine go ?_
  refine wc hm (fun di hm=>?_) fun di hm=>?_
  ·exact wk
  ·iterate 5 refine go ?_
   obtain rfl:=si hm
   exact Exists.intro _ ⟨av,⟨by first|exact .of rfl|exact .d rfl,trivial⟩,⟨rfl,rfl,rfl,trivial⟩,rfl⟩
 ·exact wk
theorem gw{n:Nat}{H:List HE}{a1:(List A3)}{p2:A3→Option Bool}{r:Bool}{bu:FuncId}{bw:List V}(dQ:∀ (a:Array Value) (w:World),(callFunc bu a).run Tryz.prog w=.ok (.enter bu a) w)(gq:∀ (y1:A3) (b:Bool),p2 y1=some b→aJ Tryz.prog bu (.d (A3.e y1)::bw) H fun r' H'=>r'=.d (.bool b)∧H'=H)(hm:bA n a1 p2=some r):aJ Tryz.prog 161 [.d (.sl (a1.map A3.e)),.fn (.func bu) bw] H fun r' H'=>r'=.d (.bool r)∧H'=H:=by
 unfold bA at hm
 refine aaU Tryz.func161 fun g0 w0 bR=>?_
 iterate 6 refine go ?_
 obtain⟨v3,iw,hm⟩:=aa hm
 refine AL.s rfl (bZ Tryz.call232 .r (.cons .r (.cons .r .nil)) (gW dQ gq iw)) ?_
 exact wk
theorem jc{n:Nat}{H:List HE}{a1:(List ah)}{p2:ah→Option Bool}{r:Int}{bu:FuncId}{bw:List V}(dQ:∀ (a:Array Value) (w:World),(callFunc bu a).run Tryz.prog w=.ok (.enter bu a) w)(gq:∀ (y1:ah) (b:Bool),p2 y1=some b→aJ Tryz.prog bu (.d (ah.e y1)::bw) H fun r' H'=>r'=.d (.bool b)∧H'=H)(hm:c8 n a1 p2=some r):aJ Tryz.prog 275 [.d (.sl (a1.map ah.e)),.fn (.func bu) bw] H fun r' H'=>r'=.d (.int .i64 r)∧H'=H:=by
 unfold c8 at hm
 refine aaU Tryz.func275 fun g0 w0 bR=>?_
 iterate 10 refine go ?_
 obtain⟨kA,av,en⟩:=aa hm
 refine AW.vZ (σ:=Int) (τ:=(Int⊕Unit)) [0,1,7] (fun x=>[(8,.d (.int .i64 x))]) av ⟨by first|exact .of rfl|exact .d rfl,trivial⟩ ?_
 rintro n1 s3 av
 obtain⟨dj,hm,av⟩:=aZ av
 dsimp only[cz] at hm
 iterate 4 refine go ?_
 refine wc hm (fun bB hm=>?_) fun bB hm=>?_
 ·iterate 11 refine go ?_
  obtain⟨v4,ir,hm⟩:=aa hm
  iterate 2 refine go ?_
  obtain⟨v5,jL,hm⟩:=aa hm
  refine AL.s rfl (bZ dQ .r (.cons .r .nil) (gq _ _ jL)) ?_
  refine go ?_
  refine wc hm (fun di hm=>?_) fun di hm=>?_
  ·exact wk
  ·iterate 5 refine go ?_
   obtain rfl:=si hm
   exact Exists.intro _ ⟨av,⟨by first|exact .of rfl|exact .d rfl,trivial⟩,⟨rfl,rfl,rfl,trivial⟩,rfl⟩
 ·exact wk
theorem h_{n:Nat}{H:List HE}{a1:(List ah)}{p2:ah→Option Bool}{r:Bool}{bu:FuncId}{bw:List V}(dQ:∀ (a:Array Value) (w:World),(callFunc bu a).run Tryz.prog w=.ok (.enter bu a) w)(gq:∀ (y1:ah) (b:Bool),p2 y1=some b→aJ Tryz.prog bu (.d (ah.e y1)::bw) H fun r' H'=>r'=.d (.bool b)∧H'=H)(hm:bI n a1 p2=some r):aJ Tryz.prog 225 [.d (.sl (a1.map ah.e)),.fn (.func bu) bw] H fun r' H'=>r'=.d (.bool r)∧H'=H:=by
 unfold bI at hm
 refine aaU Tryz.func225 fun g0 w0 bR=>?_
 iterate 6 refine go ?_
 obtain⟨v3,iw,hm⟩:=aa hm
 refine AL.s rfl (bZ Tryz.call275 .r (.cons .r (.cons .r .nil)) (jc dQ gq iw)) ?_
 exact wk
theorem xi{n:Nat}{a1:ah}{r:Bool}(hm:iL n a1=some r):Fn Tryz.prog 224 [(ah.e a1)] (.bool r):=by
 unfold iL at hm
 refine aaT Tryz.func224 fun g0 w0 bR=>?_
 refine go ?_
 refine AL.s rfl (cW (n:=0) .r rfl rfl rfl) ?_
 exact wk
end Go.Proofs.YtjdnbobilgamdaaGreatDoor.Ab
