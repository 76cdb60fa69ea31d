/- The functions do what they are in plain Lean. Conditions: none. -/
import Derived.Test.YtjdnbobilgamdaaGreatDoorTg
import Derived.Test.YtjdnbobilgamdaaGreatDoorMi
import Derived.Test.YtjdnbobilgamdaaGreatDoorFa
set_option maxRecDepth 100000
set_option maxHeartbeats 20000000
namespace Go.Proofs.YtjdnbobilgamdaaGreatDoor.Ab
open Go
attribute [local irreducible] bj AL AD AW tE zT lT
theorem r_{n:Nat}{a1:af}{r:Bool}(hm:eU n a1=some r):Fn Tryz.prog 16 [(af.e a1)] (.bool r):=by
 unfold eU at hm
 refine aaT Tryz.func16 fun g0 w0 bR=>?_
 refine go ?_
 refine AL.s rfl (cW (n:=0) .r rfl rfl rfl) ?_
 exact wk
theorem er{n:Nat}{c1:(List (Int×Int))}{a2:Int}{r:Int}(hm:bT n c1 a2=some r):aJ Tryz.prog 105 [.mp 0,.d (.int .i64 a2)] [.ob (oY (c1.map (fun q=>((.int .i64 q.1),(.int .i64 q.2)))))] fun r' H'=>r'=kF [.d (.int .i64 r)]∧H'=[.ob (oY (c1.map (fun q=>((.int .i64 q.1),(.int .i64 q.2)))))]:=by
 unfold bT at hm
 refine aJ.rl (fnn:=Tryz.f105) Tryz.func105 rfl (aaR rfl) (fun g0 w0 bR=>?_)
 refine rs 1 [0,1] 1 ?_
 iterate 4 refine go ?_
 obtain⟨kA,av,en⟩:=aa hm
 refine lS 1 av (fun x=>[(0,.mp 0),(1,.d (.int .i64 x))]) (fun x=>[.ob (oY (c1.map (fun q=>((.int .i64 q.1),(.int .i64 q.2)))))]) (mt 1) ?_
 rintro n1 s3 av
 obtain⟨dj,hm,av⟩:=aZ av
 dsimp only[cj] at hm
 iterate 4 refine go ?_
 refine AL.s rfl (Ff (m:=c1) (k:=s3) (z:=((0:Int):Int)) (fv:=D.i) (DT Tryz.underlying3) Tryz.underlying183 .r (.r rfl) rfl ⟨_,rfl,rfl⟩ (fun _ _=>.int _ _)) ?_
 iterate 16 refine go ?_
 refine wc hm (fun bB hm=>?_) fun bB hm=>?_
 ·iterate 5 refine go ?_
  obtain rfl:=si hm
  obtain rfl:=si av
  replace hm:=en
  try dsimp only at hm
  obtain rfl:=si hm
  exact⟨_,[0],(.tmp .r .nil),rfl,rfl,(.cons (.d rfl) .nil),(.ob rfl jm .nil)⟩
 ·exact wk
theorem pS{n:Nat}{a1:(List ae)}{r:(List (Int×Int))}(hm:eu n a1=some r):aJ Tryz.prog 101 [.d (.sl (a1.map ae.e))] [] fun r' H'=>r'=kF [.mp 0]∧H'=[.ob (oY (r.map (fun q=>((.int .i64 q.1),(.int .i64 q.2)))))]:=by
 unfold eu at hm
 refine aJ.rl (fnn:=Tryz.f101) Tryz.func101 rfl (aaR rfl) (fun g0 w0 bR=>?_)
 refine rs 0 [0] 0 ?_
 iterate 4 refine go ?_
 refine AL.s rfl (uT (n:=0) rfl) ?_
 iterate 9 refine go ?_
 obtain⟨kA,av,en⟩:=aa hm
 refine lS 0 av (fun x=>[(3,.mp 0),(9,.d (.sl (a1.map ae.e))),(10,.d (.int .i64 (a1.length:Int))),(11,.d (.int .i64 x.1))]) (fun x=>[.ob (oY (x.2.map (fun q=>((.int .i64 q.1),(.int .i64 q.2)))))]) (mt 1) ?_
 rintro n1 ⟨s2,s3⟩ av
 obtain⟨dj,hm,av⟩:=aZ av
 dsimp only[cD] at hm
 iterate 4 refine go ?_
 refine wc hm (fun bB hm=>?_) fun bB hm=>?_
 ·refine go ?_
  obtain⟨iP,hm,hZ⟩:=aa hm
  refine cS (t:=iP) 0 (fun x=>[(3,.mp 0),(9,.d (.sl (a1.map ae.e))),(10,.d (.int .i64 (a1.length:Int))),(11,.d (.int .i64 s2))]) (fun x=>[.ob (oY (x.map (fun q=>((.int .i64 q.1),(.int .i64 q.2)))))]) ?_ ?_
  ·skip
   iterate 2 refine go ?_
   obtain⟨v4,ir,hm⟩:=aa hm
   iterate 2 refine go ?_
   refine AL.s rfl (bE (n:=1) QL rfl) ?_
   iterate 7 refine go ?_
   refine wc hm (fun di hm=>?_) fun di hm=>?_
   ·refine AW.ml [([],[]),([],[]),([1],[]),([0],[]),([],[]),([],[]),([1],[]),([0],[]),([],[]),([],[])] mo (by decide+kernel) ?_
    iterate 3 refine go ?_
    obtain⟨v5,jL,hm⟩:=aa hm
    refine AD.s (ws:=[]) rfl rfl (fun _ _ hH=>wv [0] Tryz.call105 .r (.cons .r (.cons .r .nil)) (er jL) rfl (.cons ((hH _ (by simp)).trans rfl) .nil) rfl rfl rfl rfl rfl) ?_
    iterate 3 refine go ?_
    obtain⟨v6,oz,hm⟩:=aa hm
    refine AD.s (ws:=[]) rfl rfl (fun _ _ hH=>wv [0] Tryz.call105 .r (.cons .r (.cons .r .nil)) (er oz) rfl (.cons ((hH _ (by simp)).trans rfl) .nil) rfl rfl rfl rfl rfl) ?_
    iterate 3 refine go ?_
    refine rs 0 [3,6,7,9,10,11] 2 ?_
    iterate 8 refine go ?_
    obtain⟨v7,mE,hm⟩:=aa hm
    refine AL.s rfl (nT (m:=s3) (k:=(max v5 v6)) (v:=(min v5 v6)) (fv:=D.i) (DT Tryz.underlying3) Tryz.underlying183 .r (.r rfl) (.r rfl) rfl mE) ?_
    refine go ?_
    obtain rfl:=si hm
    exact nx rfl (mt 1)
   ·refine go ?_
    obtain rfl:=si hm
    exact nx rfl (mt 1)
  ·rintro s8 rfl
   replace hm:=hZ
   try dsimp only at hm
   iterate 4 refine go ?_
   obtain rfl:=si hm
   exact nx av (mt 1)
 ·refine go ?_
  obtain rfl:=si hm
  obtain rfl:=si av
  replace hm:=en
  try dsimp only at hm
  iterate 5 refine go ?_
  obtain rfl:=si hm
  exact⟨_,[0],(.tmp .r .nil),rfl,rfl,(.cons (.mp rfl) .nil),(.ob rfl jm .nil)⟩
theorem pT{n:Nat}{c1 r:List Int}(hm:cZ n c1=some r):r.length=c1.length:=by
 unfold cZ at hm
 split at hm
 ·injection hm with hm;subst hm;exact tF _ _
 ·cases hm
theorem qq{n:Nat}{c1 r:List Int}(hm:cZ n c1=some r):aJ Tryz.prog 133 [.hs 0 0 c1.length 1] [.bn (c1.map D.i) 3 1] fun r' H'=>r'=kF []∧H'=[.bn (r.map D.i) 3 1]:=by
 unfold cZ at hm
 split at hm
 ·rename_i h;injection hm with hm;subst hm;exact aJ.Mo TN h
 ·cases hm
theorem pb{n:Nat}{c1:(List Int)}{r:(List Int)}(hm:cN n c1=some r):aJ Tryz.prog 151 [.hs 0 0 c1.length 1] [.bn (c1.map D.i) 3 1] fun r' H'=>r'=kF [.hs 1 0 r.length 1]∧H'=[.dead,.bn (r.map D.i) 3 1]:=by
 unfold cN at hm
 refine aJ.rl (fnn:=Tryz.f151) Tryz.func151 rfl (aaR rfl) (fun g0 w0 bR=>?_)
 refine rs 1 [0] 1 ?_
 iterate 9 refine go ?_
 refine wc hm (fun bB hm=>?_) fun bB hm=>?_
 ·iterate 4 refine go ?_
  refine AW.CK (n:=1) (f:=D.i) (l:=c1) 0 [2] rfl rfl ⟨rfl,trivial⟩ ?_
  refine go ?_
  obtain rfl:=si hm
  exact⟨_,[0,1],(.tmp .r .nil),rfl,rfl,(.cons (.hs rfl rfl) .nil),(.dead (.bn rfl .nil))⟩
 ·iterate 6 refine go ?_
  obtain⟨kA,av,en⟩:=aa hm
  refine lS 1 av (fun x=>[(0,.hs 0 0 c1.length 1),(3,.d (.int .i64 x))]) (fun x=>[.bn (c1.map D.i) 3 1]) (mt 1) ?_
  rintro n1 s2 av
  obtain⟨dj,hm,av⟩:=aZ av
  dsimp only[c_] at hm
  iterate 7 refine go ?_
  refine wc hm (fun di hm=>?_) fun di hm=>?_
  ·iterate 3 refine go ?_
   refine AW.ml [([],[]),([],[]),([0],[]),([0],[]),([],[]),([],[]),([],[]),([0],[]),([0],[]),([],[])] mo (by decide+kernel) ?_
   iterate 2 refine go ?_
   obtain⟨v3,iw,hm⟩:=aa hm
   refine go ?_
   obtain⟨v4,ir,hm⟩:=aa hm
   refine AD.s (ws:=[]) rfl rfl (fun H' _ hH=>eg (f:=D.i) (fun _=>rfl) .r ((hH _ (by simp)).trans rfl) ir mK) ?_
   refine AD.s (ws:=[]) rfl rfl (fun H' _ hH=>lR .r) ?_
   refine AD.s (ws:=[]) rfl rfl (fun H' _ hH=>al .r) ?_
   refine AD.s (ws:=[]) rfl rfl (fun H' _ hH=>zS (.r rfl) (.r rfl)) ?_
   obtain⟨v5,jL,hm⟩:=aa hm
   refine go ?_
   obtain⟨v6,oz,hm⟩:=aa hm
   refine AD.s (ws:=[]) rfl rfl (fun H' _ hH=>eg (f:=D.i) (fun _=>rfl) .r ((hH _ (by simp)).trans rfl) oz mK) ?_
   refine AD.s (ws:=[]) rfl rfl (fun H' _ hH=>xM (.r rfl) (.r rfl)) ?_
   refine AD.nil ?_
   refine wc hm (fun mq hm=>?_) fun mq hm=>?_
   ·iterate 3 refine go ?_
    obtain⟨v7,mE,hm⟩:=aa hm
    refine AL.s rfl (tA (f:=D.i) (l:=c1) .r rfl rfl ef (.r rfl) rfl mE) ?_
    iterate 7 refine go ?_
    obtain⟨JH,gr,oJ⟩:=aa hm
    refine AW.Rk (σ:=(Int×Int×(List Int))) (τ:=(Int×(List Int))) 1 [4] (fun x=>[(0,.hs 0 0 x.2.2.length 1),(3,.d (.int .i64 x.1)),(5,.d (.int .i64 x.2.1))]) (fun x=>[.bn (x.2.2.map D.i) 3 1]) gr (aQ.g0 bR (by simp)) ⟨[0],rfl,rfl,rfl,⟨(.hs rfl rfl),(.d rfl),(.d rfl),trivial⟩,⟨rfl,trivial⟩,(.bn rfl .nil)⟩ ?_
    rintro n2 ⟨s8,s9,kp⟩ gr
    obtain⟨xg,hm,gr⟩:=aZ gr
    dsimp only[fP] at hm
    iterate 7 refine go ?_
    refine wc hm (fun BS hm=>?_) fun BS hm=>?_
    ·refine go ?_
     obtain⟨iP,hm,hZ⟩:=aa hm
     refine AW.U8 (α:=(Int×(List Int))) 1 (fun x=>x=iP) [4,5] (fun x=>[(0,.hs 0 0 x.2.length 1),(3,.d (.int .i64 x.1))]) (fun x=>[.bn (x.2.map D.i) 3 1]) (aQ.g0 bR (by simp)) ?_ ?_
     ·skip
      refine go ?_
      refine AW.ml [([],[]),([],[]),([0],[]),([0],[]),([],[]),([],[]),([],[]),([0],[]),([0],[]),([],[])] mo (by decide+kernel) ?_
      iterate 2 refine go ?_
      obtain⟨v11,nw,hm⟩:=aa hm
      refine AD.s (ws:=[]) rfl rfl (fun _ _ hH=>oL (lo:=s2) (r:=v7) (a:=s9) (ls:=kp.map D.i) .r (HG mE) ((hH _ (by simp)).trans rfl) (.r rfl) nw ef) ?_
      obtain⟨v12,pc,hm⟩:=aa hm
      refine AD.s (ws:=[]) rfl rfl (fun H' _ hH=>sx (f:=D.i) (l:=kp) (a:=(s2+s9)) (fun _=>rfl) .r ((hH _ (by simp)).trans rfl) pc mK) ?_
      refine AD.s (ws:=[]) rfl rfl (fun H' _ hH=>lR .r) ?_
      refine AD.s (ws:=[]) rfl rfl (fun H' _ hH=>al .r) ?_
      refine AD.s (ws:=[]) rfl rfl (fun H' _ hH=>zS (.r rfl) (.r rfl)) ?_
      obtain⟨qs,xh,hm⟩:=aa hm
      refine AD.s (ws:=[]) rfl rfl (fun _ _ hH=>oL (lo:=s2) (r:=v7) (a:=(IntKind.i64.wrap (s9-(1:Int)))) (ls:=kp.map D.i) .r (HG mE) ((hH _ (by simp)).trans rfl) (.r rfl) xh ef) ?_
      obtain⟨uH,vu,hm⟩:=aa hm
      refine AD.s (ws:=[]) rfl rfl (fun H' _ hH=>sx (f:=D.i) (l:=kp) (a:=(s2+(IntKind.i64.wrap (s9-(1:Int))))) (fun _=>rfl) .r ((hH _ (by simp)).trans rfl) vu mK) ?_
      refine AD.s (ws:=[]) rfl rfl (fun H' _ hH=>xN (.r rfl) (.r rfl)) ?_
      refine AD.nil ?_
      refine wc hm (fun Cu hm=>?_) fun Cu hm=>?_
      ·iterate 5 refine go ?_
       obtain⟨uM,rH,hm⟩:=aa hm
       refine AL.s rfl (oL (lo:=s2) (r:=v7) (a:=s9) (ls:=kp.map D.i) .r (HG mE) rfl (.r rfl) rH ef) ?_
       obtain⟨xB,zy,hm⟩:=aa hm
       refine AL.s rfl (sx (f:=D.i) (l:=kp) (a:=(s2+s9)) (fun _=>rfl) .r rfl zy mK) ?_
       obtain⟨v17,Gx,hm⟩:=aa hm
       refine go ?_
       obtain⟨ES,yd,hm⟩:=aa hm
       refine AL.s rfl (e9 (f:=D.i) (fun _=>rfl) .r (.r rfl) rfl yd ⟨_,rfl,rfl⟩ En.i) ?_
       refine AL.nil ?_
       refine AW.region ?_
       refine AL.s rfl (al .r) ?_
       refine AL.s rfl (gO (.r rfl) (.r rfl)) ?_
       refine AL.s rfl (bJ .r) ?_
       refine AL.nil ?_
       refine DP ?_
       obtain rfl:=si hm
       exact Exists.intro _ ⟨rfl,⟨[0],rfl,rfl,rfl,⟨(.hs rfl (qB yd).symm),(.d rfl),trivial⟩,⟨rfl,rfl,trivial⟩,(.bn rfl .nil)⟩⟩
      ·refine go ?_
       obtain rfl:=si hm
       exact Exists.intro _ ⟨rfl,⟨[0],rfl,rfl,rfl,⟨(.hs rfl rfl),(.d rfl),trivial⟩,⟨rfl,rfl,trivial⟩,(.bn rfl .nil)⟩⟩
     ·rintro⟨s19,s20⟩ rfl
      replace hm:=hZ
      try dsimp only at hm
      iterate 5 refine go ?_
      obtain rfl:=si hm
      exact Exists.intro _ ⟨gr,⟨[0],rfl,rfl,rfl,⟨(.hs rfl rfl),(.d rfl),(.d rfl),trivial⟩,⟨rfl,trivial⟩,(.bn rfl .nil)⟩⟩
    ·refine go ?_
     obtain rfl:=si hm
     obtain rfl:=si gr
     replace hm:=oJ
     try dsimp only at hm
     iterate 3 refine go ?_
     obtain⟨v21,Ik,hm⟩:=aa hm
     refine AL.s rfl (tA (f:=D.i) (l:=kp) .r rfl rfl ef (.r rfl) rfl Ik) ?_
     refine AL.s rfl (Fu (f:=D.i) (l:=kp) (z:=((0:Int):Int)) En.i .r rfl (DQ Ik) ef OZ rfl) ?_
     iterate 4 refine go ?_
     obtain⟨v22,Il,hm⟩:=aa hm
     refine AL.s rfl (xH (f:=D.i) (l:=(ql kp s8.toNat v21.length ((0:Int):Int))) .r rfl (sy (DQ Ik)) ef (.r rfl) Il) ?_
     iterate 2 refine go ?_
     refine AW.CK (n:=1) (f:=D.i) (l:=v22) 0 [2] rfl rfl ⟨rfl,trivial⟩ ?_
     refine go ?_
     obtain rfl:=si hm
     obtain rfl:=si av
     replace hm:=en
     try dsimp only at hm
     obtain rfl:=si hm
     exact⟨_,[0,1],(.tmp .r .nil),rfl,rfl,(.cons (.hs rfl rfl) .nil),(.dead (.bn rfl .nil))⟩
   ·exact wk
  ·refine go ?_
   obtain rfl:=si hm
   obtain rfl:=si av
   replace hm:=en
   try dsimp only at hm
   iterate 4 refine go ?_
   refine AW.CK (n:=1) (f:=D.i) (l:=c1) 0 [2] rfl rfl ⟨rfl,trivial⟩ ?_
   refine go ?_
   obtain rfl:=si hm
   exact⟨_,[0,1],(.tmp .r .nil),rfl,rfl,(.cons (.hs rfl rfl) .nil),(.dead (.bn rfl .nil))⟩
theorem qS{n:Nat}{a1:(List ae)}{r:(List Int)}(hm:fj n a1=some r):aJ Tryz.prog 103 [.d (.sl (a1.map ae.e))] [] fun r' H'=>r'=kF [.hs 0 0 r.length 1]∧H'=[.bn (r.map D.i) 3 1]:=by
 unfold fj at hm
 refine aJ.rl (fnn:=Tryz.f103) Tryz.func103 rfl (aaR rfl) (fun g0 w0 bR=>?_)
 refine rs 0 [0] 0 ?_
 iterate 13 refine go ?_
 refine AW.DL (n:=0) 3 3 1 rfl rfl ?_
 obtain⟨kA,av,en⟩:=aa hm
 refine lS 0 av (fun x=>[(3,.hs 0 0 x.2.length 1),(6,.d (.sl (a1.map ae.e))),(7,.d (.int .i64 (a1.length:Int))),(8,.d (.int .i64 x.1))]) (fun x=>[.bn (x.2.map D.i) 3 1]) (mt 1) ?_
 rintro n1 ⟨s2,s3⟩ av
 obtain⟨dj,hm,av⟩:=aZ av
 dsimp only[cn] at hm
 iterate 4 refine go ?_
 refine wc hm (fun bB hm=>?_) fun bB hm=>?_
 ·refine go ?_
  obtain⟨iP,hm,hZ⟩:=aa hm
  refine cS (t:=iP) 0 (fun x=>[(3,.hs 0 0 x.length 1),(6,.d (.sl (a1.map ae.e))),(7,.d (.int .i64 (a1.length:Int))),(8,.d (.int .i64 s2))]) (fun x=>[.bn (x.map D.i) 3 1]) ?_ ?_
  ·skip
   iterate 2 refine go ?_
   obtain⟨v4,ir,hm⟩:=aa hm
   iterate 2 refine go ?_
   refine AL.s rfl (bE (n:=1) QL rfl) ?_
   iterate 7 refine go ?_
   refine wc hm (fun di hm=>?_) fun di hm=>?_
   ·iterate 6 refine go ?_
    refine AL.s rfl (aF (ds:=([v4.fA,v4.fB]:List Int).map D.i) ef (.cons (.r rfl) rfl (En.i.one _) (.cons (.r rfl) rfl (En.i.one _) .nil)) rfl (by decide)) ?_
    obtain⟨v5,jL,hm⟩:=aa hm
    refine AL.s rfl (yS (n:=2) (f:=D.i) (l:=s3) (l':=([v4.fA,v4.fB]:List Int)) ef .r (.r rfl) rfl rfl rfl En.i jL) ?_
    iterate 2 refine go ?_
    obtain rfl:=si hm
    exact Exists.intro _ ⟨rfl,⟨[2],rfl,rfl,rfl,⟨(.hs rfl rfl),(.d rfl),(.d rfl),(.d rfl),trivial⟩,trivial,(.bn rfl .nil)⟩⟩
   ·refine go ?_
    obtain rfl:=si hm
    exact nx rfl (mt 1)
  ·rintro s6 rfl
   replace hm:=hZ
   try dsimp only at hm
   iterate 4 refine go ?_
   obtain rfl:=si hm
   exact nx av (mt 1)
 ·refine go ?_
  obtain rfl:=si hm
  obtain rfl:=si av
  replace hm:=en
  try dsimp only at hm
  iterate 2 refine go ?_
  obtain⟨v7,mE,hm⟩:=aa hm
  refine AL.s rfl (lQ (v:=.gd []) (H':=[.bn (v7.map D.i) 3 1]) [0] Tryz.call133 .r (.cons .r .nil) (qq mE) rfl (.cons rfl .nil) rfl rfl rfl rfl rfl rfl rfl rfl) ?_
  refine go ?_
  refine AW.reset 0 [(3,.hs 0 0 v7.length 1)] [.bn (v7.map D.i) 3 1] (aQ.g0 bR (by simp)) ⟨[0],rfl,rfl,rfl,⟨(.hs rfl (pT mE).symm),trivial⟩,trivial,(.bn rfl .nil)⟩ ?_
  iterate 2 refine go ?_
  obtain⟨v8,oA,hm⟩:=aa hm
  refine AL.s rfl (lQ (v:=.hs 1 0 v8.length 1) (H':=[.dead,.bn (v8.map D.i) 3 1]) [0] Tryz.call151 .r (.cons .r .nil) (pb oA) rfl (.cons rfl .nil) rfl rfl rfl rfl rfl rfl rfl rfl) ?_
  iterate 3 refine go ?_
  obtain rfl:=si hm
  exact⟨_,[1],(.tmp .r .nil),rfl,rfl,(.cons (.hs rfl rfl) .nil),(.bn rfl .nil)⟩
theorem mF{n:Nat}{a1:Int}{c2:(List (Int×Int))}{c3:Int}{r:Bool}(hm:cC n a1 c2 c3=some r):aJ Tryz.prog 104 [.d (.int .i64 a1),.ptr 0 0,.ptr 2 0] [.row [.mp 1],.ob (oY (c2.map (fun q=>((.int .i64 q.1),(.int .i64 q.2))))),.row [.d (.int .i64 c3)]] fun r' H'=>r'=kF [.d (.bool r)]∧H'=[.row [.mp 1],.ob (oY (c2.map (fun q=>((.int .i64 q.1),(.int .i64 q.2))))),.row [.d (.int .i64 c3)]]:=by
 unfold cC at hm
 refine aJ.rl (fnn:=Tryz.f104) Tryz.func104 rfl (aaR rfl) (fun g0 w0 bR=>?_)
 iterate 3 refine go ?_
 refine AW.ml [([0],[]),([],[]),([1],[]),([0],[]),([2],[]),([1],[]),([],[]),([],[])] mo (by decide+kernel) ?_
 iterate 2 refine go ?_
 obtain⟨v4,ir,hm⟩:=aa hm
 refine AD.s (ws:=[]) rfl rfl (fun _ _ hH=>wv [1] Tryz.call105 .r (.cons .r (.cons .r .nil)) (er ir) rfl (.cons ((hH _ (by simp)).trans rfl) .nil) rfl rfl rfl rfl rfl) ?_
 iterate 2 refine go ?_
 obtain⟨v5,jL,hm⟩:=aa hm
 refine AD.s (ws:=[]) rfl rfl (fun _ _ hH=>wv [1] Tryz.call105 .r (.cons .r (.cons .r .nil)) (er jL) rfl (.cons ((hH _ (by simp)).trans rfl) .nil) rfl rfl rfl rfl rfl) ?_
 iterate 4 refine go ?_
 obtain rfl:=si hm
 exact⟨_,[0,1,2],(.tmp .r .nil),rfl,rfl,(.cons (.d rfl) .nil),(.row rfl (.cons (.mp rfl) .nil) (.ob rfl jm (.row rfl (.cons (.d rfl) .nil) .nil)))⟩
theorem oB{n:Nat}{c1:(List Int)}{c2:(List (Int×Int))}{c3:Int}{r:Int}(hm:cq n c1 c2 c3=some r):aJ Tryz.prog 150 [.hs 0 0 c1.length 1,.fn (.func 104) [.ptr 1 0,.ptr 3 0]] [.bn (c1.map D.i) 3 1,.row [.mp 2],.ob (oY (c2.map (fun q=>((.int .i64 q.1),(.int .i64 q.2))))),.row [.d (.int .i64 c3)]] fun r' H'=>r'=kF [.d (.int .i64 r)]∧H'=[.bn (c1.map D.i) 3 1,.row [.mp 2],.ob (oY (c2.map (fun q=>((.int .i64 q.1),(.int .i64 q.2))))),.row [.d (.int .i64 c3)]]:=by
 unfold cq at hm
 refine aJ.rl (fnn:=Tryz.f150) Tryz.func150 rfl (aaR rfl) (fun g0 w0 bR=>?_)
 refine AW.reset 4 [(0,.hs 0 0 c1.length 1),(1,.fn (.func 104) [.ptr 1 0,.ptr 3 0])] [.bn (c1.map D.i) 3 1,.row [.mp 2],.ob (oY (c2.map (fun q=>((.int .i64 q.1),(.int .i64 q.2))))),.row [.d (.int .i64 c3)]] (aQ.g0 bR (by simp)) ⟨[0,1,2,3],rfl,rfl,rfl,⟨(.hs rfl rfl),(.OO (.ptr rfl) (.ptr rfl)),trivial⟩,trivial,(.bn rfl (.row rfl (.cons (.mp rfl) .nil) (.ob rfl jm (.row rfl (.cons (.d rfl) .nil) .nil))))⟩ ?_
 refine AW.kz ?_
 refine AL.s rfl (bJ .r) ?_
 refine AL.nil ?_
 refine AW.seq ?_
 refine AW.kz ?_
 refine AL.s rfl (lR .r) ?_
 refine AL.s rfl (CG .r rfl ef) ?_
 refine AL.s rfl (al .r) ?_
 refine AL.nil ?_
 refine AW.block ?_
 obtain⟨kA,av,en⟩:=aa hm
 refine AW.IS (σ:=Int) (τ:=(Int⊕Unit)) 4 (fun x=>[(0,.hs 0 0 c1.length 1),(1,.fn (.func 104) [.ptr 1 0,.ptr 3 0]),(7,.d (.int .i64 (c1.length:Int))),(8,.d (.int .i64 x))]) (fun x=>[.bn (c1.map D.i) 3 1,.row [.mp 2],.ob (oY (c2.map (fun q=>((.int .i64 q.1),(.int .i64 q.2))))),.row [.d (.int .i64 c3)]]) av (aQ.g0 bR (by simp)) ⟨[0,1,2,3],rfl,rfl,rfl,⟨(.hs rfl rfl),(.OO (.ptr rfl) (.ptr rfl)),(.d rfl),(.d rfl),trivial⟩,trivial,(.bn rfl (.row rfl (.cons (.mp rfl) .nil) (.ob rfl jm (.row rfl (.cons (.d rfl) .nil) .nil))))⟩ ?_
 rintro n1 s4 av
 obtain⟨dj,hm,av⟩:=aZ av
 dsimp only[bU] at hm
 iterate 4 refine go ?_
 refine wc hm (fun bB hm=>?_) fun bB hm=>?_
 ·iterate 11 refine go ?_
  obtain⟨v5,jL,hm⟩:=aa hm
  refine go ?_
  obtain⟨v6,oz,hm⟩:=aa hm
  refine AL.s rfl (eg (f:=D.i) (fun _=>rfl) .r rfl oz mK) ?_
  obtain⟨v7,mE,hm⟩:=aa hm
  refine AL.s rfl (lQ (v:=.d (.bool v7)) (H':=[.bn (c1.map D.i) 3 1,.row [.mp 2],.ob (oY (c2.map (fun q=>((.int .i64 q.1),(.int .i64 q.2))))),.row [.d (.int .i64 c3)]]) [1,2,3] Tryz.call104 .r (.cons .r .nil) (mF mE) rfl (.cons rfl (.cons rfl (.cons rfl .nil))) rfl rfl rfl rfl rfl rfl rfl rfl) ?_
  refine go ?_
  refine wc hm (fun di hm=>?_) fun di hm=>?_
  ·iterate 5 refine go ?_
   obtain rfl:=si hm
   obtain rfl:=si av
   replace hm:=en
   try dsimp only at hm
   obtain rfl:=si hm
   exact⟨_,[0,1,2,3],(.tmp .r .nil),rfl,rfl,(.cons (.d rfl) .nil),(.bn rfl (.row rfl (.cons (.mp rfl) .nil) (.ob rfl jm (.row rfl (.cons (.d rfl) .nil) .nil))))⟩
  ·iterate 5 refine go ?_
   obtain rfl:=si hm
   exact nq ⟨_,av,⟨[0,1,2,3],rfl,rfl,rfl,⟨(.hs rfl rfl),(.OO (.ptr rfl) (.ptr rfl)),(.d rfl),(.d rfl),trivial⟩,trivial,(.bn rfl (.row rfl (.cons (.mp rfl) .nil) (.ob rfl jm (.row rfl (.cons (.d rfl) .nil) .nil))))⟩⟩
 ·refine go ?_
  obtain rfl:=si hm
  obtain rfl:=si av
  replace hm:=en
  try dsimp only at hm
  iterate 4 refine go ?_
  obtain rfl:=si hm
  exact⟨_,[0,1,2,3],(.tmp .r .nil),rfl,rfl,(.cons (.d rfl) .nil),(.bn rfl (.row rfl (.cons (.mp rfl) .nil) (.ob rfl jm (.row rfl (.cons (.d rfl) .nil) .nil))))⟩
theorem nL{n:Nat}{c1:(List Int)}{c2:(List (Int×Int))}{c3:Int}{r:(List Int)}(hm:de n c1 c2 c3=some r):aJ Tryz.prog 102 [.hs 0 0 c1.length 1,.fn (.func 104) [.ptr 1 0,.ptr 3 0]] [.bn (c1.map D.i) 3 1,.row [.mp 2],.ob (oY (c2.map (fun q=>((.int .i64 q.1),(.int .i64 q.2))))),.row [.d (.int .i64 c3)]] fun r' H'=>r'=kF [.hs 4 0 r.length 1]∧H'=[.dead,.row [.mp 2],.ob (oY (c2.map (fun q=>((.int .i64 q.1),(.int .i64 q.2))))),.row [.d (.int .i64 c3)],.bn (r.map D.i) 3 1]:=by
 unfold de at hm
 refine aJ.rl (fnn:=Tryz.f102) Tryz.func102 rfl (aaR rfl) (fun g0 w0 bR=>?_)
 refine AW.reset 4 [(0,.hs 0 0 c1.length 1),(1,.fn (.func 104) [.ptr 1 0,.ptr 3 0])] [.bn (c1.map D.i) 3 1,.row [.mp 2],.ob (oY (c2.map (fun q=>((.int .i64 q.1),(.int .i64 q.2))))),.row [.d (.int .i64 c3)]] (aQ.g0 bR (by simp)) ⟨[0,1,2,3],rfl,rfl,rfl,⟨(.hs rfl rfl),(.OO (.ptr rfl) (.ptr rfl)),trivial⟩,trivial,(.bn rfl (.row rfl (.cons (.mp rfl) .nil) (.ob rfl jm (.row rfl (.cons (.d rfl) .nil) .nil))))⟩ ?_
 refine AW.kz ?_
 refine AL.s rfl (AY .r) ?_
 refine AL.nil ?_
 refine AW.kz ?_
 refine AL.s rfl (lR .r) ?_
 refine AL.s rfl (AV .r) ?_
 obtain⟨v4,ir,hm⟩:=aa hm
 refine AL.s rfl (lQ (v:=.d (.int .i64 v4)) (H':=[.bn (c1.map D.i) 3 1,.row [.mp 2],.ob (oY (c2.map (fun q=>((.int .i64 q.1),(.int .i64 q.2))))),.row [.d (.int .i64 c3)]]) [0,1,2,3] Tryz.call150 .r (.cons .r (.cons .r .nil)) (oB ir) rfl (.cons rfl (.cons rfl (.cons rfl (.cons rfl .nil)))) rfl rfl rfl rfl rfl rfl rfl rfl) ?_
 iterate 7 refine go ?_
 refine wc hm (fun bB hm=>?_) fun bB hm=>?_
 ·iterate 4 refine go ?_
  refine AW.CK (n:=4) (f:=D.i) (l:=c1) 0 [4] rfl rfl ⟨rfl,trivial⟩ ?_
  refine go ?_
  obtain rfl:=si hm
  exact⟨_,[0,1,2,3,4],(.tmp .r .nil),rfl,rfl,(.cons (.hs rfl rfl) .nil),(.dead (.row rfl (.cons (.mp rfl) .nil) (.ob rfl jm (.row rfl (.cons (.d rfl) .nil) (.bn rfl .nil)))))⟩
 ·iterate 8 refine go ?_
  obtain⟨kA,av,en⟩:=aa hm
  refine AW.IS (σ:=(Int×Int×(List Int))) (τ:=(Int×(List Int))) 4 (fun x=>[(0,.hs 0 0 x.2.2.length 1),(1,.fn (.func 104) [.ptr 1 0,.ptr 3 0]),(5,.d (.int .i64 x.1)),(6,.d (.int .i64 x.2.1))]) (fun x=>[.bn (x.2.2.map D.i) 3 1,.row [.mp 2],.ob (oY (c2.map (fun q=>((.int .i64 q.1),(.int .i64 q.2))))),.row [.d (.int .i64 c3)]]) av (aQ.g0 bR (by simp)) ⟨[0,1,2,3],rfl,rfl,rfl,⟨(.hs rfl rfl),(.OO (.ptr rfl) (.ptr rfl)),(.d rfl),(.d rfl),trivial⟩,trivial,(.bn rfl (.row rfl (.cons (.mp rfl) .nil) (.ob rfl jm (.row rfl (.cons (.d rfl) .nil) .nil))))⟩ ?_
  rintro n1 ⟨s5,s6,s7⟩ av
  obtain⟨dj,hm,av⟩:=aZ av
  dsimp only[bQ] at hm
  iterate 7 refine go ?_
  refine wc hm (fun di hm=>?_) fun di hm=>?_
  ·refine go ?_
   obtain⟨iP,hm,hZ⟩:=aa hm
   refine cS (t:=iP) 4 (fun x=>[(0,.hs 0 0 x.2.length 1),(1,.fn (.func 104) [.ptr 1 0,.ptr 3 0]),(5,.d (.int .i64 x.1)),(6,.d (.int .i64 s6))]) (fun x=>[.bn (x.2.map D.i) 3 1,.row [.mp 2],.ob (oY (c2.map (fun q=>((.int .i64 q.1),(.int .i64 q.2))))),.row [.d (.int .i64 c3)]]) ?_ ?_
   ·skip
    iterate 4 refine go ?_
    obtain⟨v8,oA,hm⟩:=aa hm
    refine go ?_
    obtain⟨v9,pR,hm⟩:=aa hm
    refine AL.s rfl (eg (f:=D.i) (fun _=>rfl) .r rfl pR mK) ?_
    refine AL.s rfl (bJ .r) ?_
    refine AL.nil ?_
    refine AW.kz ?_
    refine AL.s rfl (AV .r) ?_
    refine AL.s rfl (al .r) ?_
    obtain⟨v10,lC,hm⟩:=aa hm
    refine AL.s rfl (lQ (v:=.d (.bool v10)) (H':=[.bn (s7.map D.i) 3 1,.row [.mp 2],.ob (oY (c2.map (fun q=>((.int .i64 q.1),(.int .i64 q.2))))),.row [.d (.int .i64 c3)]]) [1,2,3] Tryz.call104 .r (.cons .r .nil) (mF lC) rfl (.cons rfl (.cons rfl (.cons rfl .nil))) rfl rfl rfl rfl rfl rfl rfl rfl) ?_
    iterate 2 refine go ?_
    refine wc hm (fun mq hm=>?_) fun mq hm=>?_
    ·refine AW.kz ?_
     refine AL.s rfl (lR .r) ?_
     refine AL.s rfl (al .r) ?_
     refine AL.s rfl (al .r) ?_
     obtain⟨v11,nw,hm⟩:=aa hm
     refine AL.s rfl (rQ (f:=D.i) (l:=s7) .r rfl rfl (.r rfl) nw ef) ?_
     obtain⟨v12,pc,hm⟩:=aa hm
     refine AL.s rfl (e9 (f:=D.i) (fun _=>rfl) .r (.r rfl) rfl pc ⟨_,rfl,rfl⟩ En.i) ?_
     refine AL.nil ?_
     refine AW.region ?_
     refine AL.s rfl (al .r) ?_
     refine AL.s rfl (gO (.r rfl) (.r rfl)) ?_
     refine AL.s rfl (bJ .r) ?_
     refine AL.nil ?_
     refine DP ?_
     obtain rfl:=si hm
     exact nq ⟨_,rfl,⟨[0,1,2,3],rfl,rfl,rfl,⟨(.hs rfl (qB pc).symm),(.OO (.ptr rfl) (.ptr rfl)),(.d rfl),(.d rfl),trivial⟩,trivial,(.bn rfl (.row rfl (.cons (.mp rfl) .nil) (.ob rfl jm (.row rfl (.cons (.d rfl) .nil) .nil))))⟩⟩
    ·refine AW.skip ?_
     refine DP ?_
     obtain rfl:=si hm
     exact nq ⟨_,rfl,⟨[0,1,2,3],rfl,rfl,rfl,⟨(.hs rfl rfl),(.OO (.ptr rfl) (.ptr rfl)),(.d rfl),(.d rfl),trivial⟩,trivial,(.bn rfl (.row rfl (.cons (.mp rfl) .nil) (.ob rfl jm (.row rfl (.cons (.d rfl) .nil) .nil))))⟩⟩
   ·rintro⟨Gy,K8⟩ rfl
    replace hm:=hZ
    try dsimp only at hm
    iterate 5 refine go ?_
    obtain rfl:=si hm
    exact nq ⟨_,av,⟨[0,1,2,3],rfl,rfl,rfl,⟨(.hs rfl rfl),(.OO (.ptr rfl) (.ptr rfl)),(.d rfl),(.d rfl),trivial⟩,trivial,(.bn rfl (.row rfl (.cons (.mp rfl) .nil) (.ob rfl jm (.row rfl (.cons (.d rfl) .nil) .nil))))⟩⟩
  ·refine go ?_
   obtain rfl:=si hm
   obtain rfl:=si av
   replace hm:=en
   try dsimp only at hm
   iterate 3 refine go ?_
   obtain⟨uM,rH,hm⟩:=aa hm
   refine AL.s rfl (tA (f:=D.i) (l:=s7) .r rfl rfl ef (.r rfl) rfl rH) ?_
   refine AL.s rfl (Fu (f:=D.i) (l:=s7) (z:=((0:Int):Int)) En.i .r rfl (DQ rH) ef OZ rfl) ?_
   iterate 4 refine go ?_
   obtain⟨xB,zy,hm⟩:=aa hm
   refine AL.s rfl (xH (f:=D.i) (l:=(ql s7 s5.toNat uM.length ((0:Int):Int))) .r rfl (sy (DQ rH)) ef (.r rfl) zy) ?_
   iterate 2 refine go ?_
   refine AW.CK (n:=4) (f:=D.i) (l:=xB) 0 [4] rfl rfl ⟨rfl,trivial⟩ ?_
   refine go ?_
   obtain rfl:=si hm
   exact⟨_,[0,1,2,3,4],(.tmp .r .nil),rfl,rfl,(.cons (.hs rfl rfl) .nil),(.dead (.row rfl (.cons (.mp rfl) .nil) (.ob rfl jm (.row rfl (.cons (.d rfl) .nil) (.bn rfl .nil)))))⟩
theorem sa{n:Nat}{a1:(List ae)}{a2:Int}{r:((List Int)×Int)}(hm:du n a1 a2=some r):Fn Tryz.prog 58 [(.sl (a1.map ae.e)),(.int .i64 a2)] (.gd [(.sl (r.1.map D.i)),(.int .i64 r.2)]):=by
 unfold du at hm
 refine aaT Tryz.func58 fun g0 w0 bR=>?_
 refine go ?_
 refine AL.s rfl (cW (n:=0) .r rfl rfl rfl) ?_
 iterate 4 refine go ?_
 refine rs 0 [0,3] 1 ?_
 iterate 2 refine go ?_
 obtain⟨v3,iw,hm⟩:=aa hm
 iterate 3 refine go ?_
 refine wc hm (fun bB hm=>?_) fun bB hm=>?_
 ·exact wk
 ·iterate 3 refine go ?_
  obtain⟨v4,ir,hm⟩:=aa hm
  refine AL.s rfl (lQ (v:=.mp 1) (H':=[.row [.d (.int .i64 a2)],.ob (oY (v4.map (fun q=>((.int .i64 q.1),(.int .i64 q.2)))))]) [] Tryz.call101 .r (.cons .r .nil) (pS ir) rfl .nil rfl rfl rfl rfl rfl rfl rfl rfl) ?_
  refine AL.s rfl (bE (n:=2) RZ rfl) ?_
  iterate 4 refine go ?_
  obtain⟨v5,jL,hm⟩:=aa hm
  refine AL.s rfl (lQ (v:=.hs 3 0 v5.length 1) (H':=[.row [.d (.int .i64 a2)],.ob (oY (v4.map (fun q=>((.int .i64 q.1),(.int .i64 q.2))))),.row [.mp 1],.bn (v5.map D.i) 3 1]) [] Tryz.call103 .r (.cons .r .nil) (qS jL) rfl .nil rfl rfl rfl rfl rfl rfl rfl rfl) ?_
  refine AL.s rfl (mz (.cons .r (.cons .r .nil))) ?_
  obtain⟨v6,oz,hm⟩:=aa hm
  refine AL.s rfl (lQ (v:=.hs 4 0 v6.length 1) (H':=[.row [.d (.int .i64 a2)],.ob (oY (v4.map (fun q=>((.int .i64 q.1),(.int .i64 q.2))))),.row [.mp 1],.dead,.bn (v6.map D.i) 3 1]) [3,2,1,0] Tryz.call102 .r (.cons .r (.cons .r .nil)) (nL oz) rfl (.cons rfl (.cons rfl (.cons rfl (.cons rfl .nil)))) rfl rfl rfl rfl rfl rfl rfl rfl) ?_
  iterate 2 refine go ?_
  refine AW.freeze (f:=D.i) (l:=v6) 4 [7,16] rfl rfl En.i ⟨rfl,rfl,trivial⟩ ?_
  obtain⟨iP,hm,hZ⟩:=aa hm
  refine cS (t:=iP) 0 (fun x=>[(7,.d (.sl (x.map D.i)))]) (fun x=>[.row [.d (.int .i64 a2)],.ob (oY (v4.map (fun q=>((.int .i64 q.1),(.int .i64 q.2))))),.row [.mp 1],.dead,.dead]) ?_ ?_
  ·skip
   iterate 5 refine go ?_
   refine wc hm (fun di hm=>?_) fun di hm=>?_
   ·iterate 2 refine go ?_
    refine AL.s rfl (aF (ds:=([a2]:List Int).map D.i) ef (.cons (.r rfl) rfl (En.i.one _) .nil) rfl (by decide)) ?_
    exact wk
   ·exact wk
  ·rintro s7 rfl
   replace hm:=hZ
   exact wk
instance:CF 58:=⟨Tryz.call58,@sa⟩
theorem oU{n:Nat}{a1:(List ae)}{a2:Int}{r:(List Int)}(hm:iQ n a1 a2=some r):Fn Tryz.prog 27 [(.sl (a1.map ae.e)),(.int .i64 a2)] (.sl (r.map D.i)):=by
 unfold iQ at hm
 refine aaT Tryz.func27 fun g0 w0 bR=>?_
 exact wk
instance:CF 27:=⟨Tryz.call27,@oU⟩
theorem pU{n:Nat}{a1:(List Int)}{a2:Int}{r:Int}(hm:jr n a1 a2=some r):Fn Tryz.prog 57 [(.sl (a1.map D.i)),(.int .i64 a2)] (.int .i64 r):=by
 unfold jr at hm
 refine aaT Tryz.func57 fun g0 w0 bR=>?_
 refine rs 0 [0,1] 0 ?_
 iterate 10 refine go ?_
 obtain⟨kA,av,en⟩:=aa hm
 refine lS 0 av (fun x=>[(0,.d (.sl (a1.map D.i))),(1,.d (.int .i64 a2)),(7,.d (.int .i64 (a1.length:Int))),(8,.d (.int .i64 x))]) (fun x=>[]) (mt 0) ?_
 rintro n1 s3 av
 obtain⟨dj,hm,av⟩:=aZ av
 dsimp only[gB] at hm
 iterate 4 refine go ?_
 refine wc hm (fun bB hm=>?_) fun bB hm=>?_
 ·exact wk
 ·exact wk
instance:CF 57:=⟨Tryz.call57,@pU⟩
theorem jN{n:Nat}{a1:(List Int)}{a2:Int}{r:Bool}(hm:bW n a1 a2=some r):Fn Tryz.prog 26 [(.sl (a1.map D.i)),(.int .i64 a2)] (.bool r):=by
 unfold bW at hm
 refine aaT Tryz.func26 fun g0 w0 bR=>?_
 exact wk
instance:CF 26:=⟨Tryz.call26,@jN⟩
theorem tc{n:Nat}{a1:af}{c2:Int}{r:Bool}(hm:gV n a1 c2=some r):Lt Tryz.prog 106 [.d (af.e a1),.ptr 0 0] [.row [.d (.int .i64 c2)]] (.bool r):=by
 unfold gV at hm
 refine aaU Tryz.func106 fun g0 w0 bR=>?_
 refine go ?_
 refine AL.s rfl (cW (n:=1) .r rfl rfl rfl) ?_
 exact wk
theorem vw{n:Nat}{a1:(List af)}{a2:Int}{r:(af×Bool)}(hm:gH n a1 a2=some r):Fn Tryz.prog 60 [(.sl (a1.map af.e)),(.int .i64 a2)] (.gd [(af.e r.1),(.bool r.2)]):=by
 unfold gH at hm
 refine aaT Tryz.func60 fun g0 w0 bR=>?_
 refine go ?_
 refine AL.s rfl (cW (n:=0) .r rfl rfl rfl) ?_
 refine AL.s rfl (bE (n:=1) Im rfl) ?_
 iterate 4 refine go ?_
 refine AL.s rfl (mz (.cons .r .nil)) ?_
 obtain⟨v3,iw,hm⟩:=aa hm
 refine AL.s rfl (bZ Tryz.call38 .r (.cons .r (.cons .r .nil)) (cF Tryz.call106 (fun _ _ hb=>Lt.at [0] (tc hb) (.cons rfl rfl .nil) (.cons (.d _) (.cons (.ptr rfl) .nil)) rfl) iw)) ?_
 iterate 7 refine go ?_
 refine wc hm (fun bB hm=>?_) fun bB hm=>?_
 ·refine go ?_
  refine AL.s rfl (od WQ .nil) ?_
  iterate 4 refine go ?_
  obtain rfl:=si hm
  exact kg.d (.mS .r rfl rfl rfl QM (.tmp .r .nil)) rfl rfl
 ·iterate 4 refine go ?_
  obtain⟨v4,ir,hm⟩:=aa hm
  iterate 6 refine go ?_
  obtain rfl:=si hm
  exact kg.d (.mS .r rfl rfl rfl QM (.tmp .r .nil)) rfl rfl
instance:CF 60:=⟨Tryz.call60,@vw⟩
theorem eG{n:Nat}{a1:(List (List UInt8))}{a2:(List (List UInt8))}{r:Bool}(hm:bH n a1 a2=some r):Fn Tryz.prog 108 [(.sl (a1.map D.str)),(.sl (a2.map D.str))] (.bool r):=by
 unfold bH at hm
 refine aaT Tryz.func108 fun g0 w0 bR=>?_
 refine rs 0 [0,1] 0 ?_
 iterate 11 refine go ?_
 refine wc hm (fun bB hm=>?_) fun bB hm=>?_
 ·exact wk
 ·iterate 8 refine go ?_
  obtain⟨kA,av,en⟩:=aa hm
  refine lS 0 av (fun x=>[(0,.d (.sl (a1.map D.str))),(1,.d (.sl (a2.map D.str))),(12,.d (.int .i64 (a1.length:Int))),(13,.d (.int .i64 x))]) (fun x=>[]) (mt 0) ?_
  rintro n1 s3 av
  obtain⟨dj,hm,av⟩:=aZ av
  dsimp only[ca] at hm
  iterate 4 refine go ?_
  refine wc hm (fun di hm=>?_) fun di hm=>?_
  ·iterate 7 refine go ?_
   refine AW.ml [([],[]),([],[]),([],[]),([],[]),([],[]),([],[]),([],[]),([],[]),([],[])] mo (by decide+kernel) ?_
   iterate 2 refine go ?_
   obtain⟨v4,ir,hm⟩:=aa hm
   iterate 4 refine go ?_
   obtain⟨v5,jL,hm⟩:=aa hm
   iterate 4 refine go ?_
   refine wc hm (fun mq hm=>?_) fun mq hm=>?_
   ·exact wk
   ·exact wk
  ·exact wk
instance:CF 108:=⟨Tryz.call108,@eG⟩
theorem nz{n:Nat}{a1:(List (List UInt8))}{a2:(List (List UInt8))}{r:Bool}(hm:dP n a1 a2=some r):Fn Tryz.prog 109 [(.sl (a1.map D.str)),(.sl (a2.map D.str))] (.bool r):=by
 unfold dP at hm
 refine aaT Tryz.func109 fun g0 w0 bR=>?_
 refine rs 0 [0,1] 0 ?_
 iterate 4 refine go ?_
 refine AL.s rfl (uT (n:=0) rfl) ?_
 iterate 9 refine go ?_
 obtain⟨kA,av,en⟩:=aa hm
 refine lS 0 av (fun x=>[(1,.d (.sl (a2.map D.str))),(5,.mp 0),(14,.d (.sl (a1.map D.str))),(15,.d (.int .i64 (a1.length:Int))),(16,.d (.int .i64 x.1))]) (fun x=>[.ob (oY (x.2.map (fun q=>((.str q.1),(.int .i64 q.2)))))]) (mt 1) ?_
 rintro n1 ⟨s3,s4⟩ av
 obtain⟨dj,hm,av⟩:=aZ av
 dsimp only[eI] at hm
 iterate 4 refine go ?_
 refine wc hm (fun bB hm=>?_) fun bB hm=>?_
 ·iterate 4 refine go ?_
  obtain⟨v5,jL,hm⟩:=aa hm
  iterate 7 refine go ?_
  refine AL.s rfl (xJ (m:=s4) (k:=v5) (z:=((0:Int):Int)) (fv:=D.i) (DS Tryz.underlying9) Tryz.underlying234 .r (.r rfl) rfl ⟨_,rfl,rfl⟩ (fun _ _=>.int _ _)) ?_
  refine go ?_
  obtain⟨v6,oz,hm⟩:=aa hm
  refine AL.s rfl (nT (m:=s4) (k:=v5) (v:=(zq .i64 (·||| ·) ((ft s4 v5).getD ((0:Int):Int)) (1:Int))) (fv:=D.i) (DS Tryz.underlying9) Tryz.underlying234 .r (.r rfl) (.r rfl) rfl oz) ?_
  exact wk
 ·refine go ?_
  obtain rfl:=si hm
  obtain rfl:=si av
  replace hm:=en
  try dsimp only at hm
  iterate 7 refine go ?_
  obtain⟨JH,gr,oJ⟩:=aa hm
  refine lS 0 gr (fun x=>[(5,.mp 0),(25,.d (.sl (a2.map D.str))),(26,.d (.int .i64 (a2.length:Int))),(27,.d (.int .i64 x.1))]) (fun x=>[.ob (oY (x.2.map (fun q=>((.str q.1),(.int .i64 q.2)))))]) (mt 1) ?_
  rintro n2 ⟨s7,s8⟩ gr
  obtain⟨xg,hm,gr⟩:=aZ gr
  dsimp only[eJ] at hm
  iterate 4 refine go ?_
  refine wc hm (fun di hm=>?_) fun di hm=>?_
  ·iterate 4 refine go ?_
   obtain⟨v9,pR,hm⟩:=aa hm
   iterate 7 refine go ?_
   refine AL.s rfl (xJ (m:=s8) (k:=v9) (z:=((0:Int):Int)) (fv:=D.i) (DS Tryz.underlying9) Tryz.underlying234 .r (.r rfl) rfl ⟨_,rfl,rfl⟩ (fun _ _=>.int _ _)) ?_
   refine go ?_
   obtain⟨v10,lC,hm⟩:=aa hm
   refine AL.s rfl (nT (m:=s8) (k:=v9) (v:=(zq .i64 (·||| ·) ((ft s8 v9).getD ((0:Int):Int)) (2:Int))) (fv:=D.i) (DS Tryz.underlying9) Tryz.underlying234 .r (.r rfl) (.r rfl) rfl lC) ?_
   exact wk
  ·refine go ?_
   obtain rfl:=si hm
   obtain rfl:=si gr
   replace hm:=oJ
   try dsimp only at hm
   iterate 6 refine go ?_
   refine AL.s rfl (DW (n:=1) (l:=s8) (fx:=(fun q=>((.str q.1),(.int .i64 q.2)))) Tryz.underlying234 .r rfl rfl) ?_
   iterate 2 refine go ?_
   obtain⟨t_3,ED,LA⟩:=aa hm
   refine AW.Vl (rid:=1) (mid:=0) (σ:=Int) (τ:=Int) (α:=((List UInt8)×Int)) 0 [5,37] (fun x=>[(10,.d (.int .i64 x))]) (fun x z=>[.ob (oY (s8.map (fun q=>((.str q.1),(.int .i64 q.2))))),.ob (z)]) (fx:=(fun q=>((.str q.1),(.int .i64 q.2)))) (l:=s8) ED (aQ.g0 bR (by simp)) ⟨[0,1],rfl,rfl,rfl,⟨(.d rfl),trivial⟩,⟨rfl,rfl,trivial⟩,(.ob rfl jm (.ob rfl (DV rfl) .nil))⟩ (fun _=>rfl) (fun _ _=>rfl) (fun _ _=>rfl) (fun _ _ _=>rfl) rfl rfl ?_ ?_
   ·rintro aac i_ XX S_3 i_3 WR Zv hm ED
    dsimp only[gz] at hm
    iterate 2 refine go ?_
    refine AL.s rfl (Kg (e:=XX) (fx:=(fun q=>((.str q.1),(.int .i64 q.2)))) .r rfl rfl Zv) ?_
    iterate 7 refine go ?_
    refine wc hm (fun mq hm=>?_) fun mq hm=>?_
    ·iterate 5 refine go ?_
     obtain rfl:=si hm
     exact Exists.intro _ ⟨ED,⟨[0,1],rfl,rfl,rfl,⟨(.d rfl),trivial⟩,⟨rfl,rfl,trivial⟩,(.ob rfl jm (.ob rfl (DV rfl) .nil))⟩⟩
    ·refine go ?_
     obtain rfl:=si hm
     exact Exists.intro _ ⟨ED,⟨[0,1],rfl,rfl,rfl,⟨(.d rfl),trivial⟩,⟨rfl,rfl,trivial⟩,(.ob rfl jm (.ob rfl (DV rfl) .nil))⟩⟩
   ·rintro i_ S_3 ED
    obtain rfl:=si ED
    replace hm:=LA
    try dsimp only at hm
    iterate 2 refine go ?_
    refine AL.s rfl (AR (l:=s8) (fx:=(fun q=>((.str q.1),(.int .i64 q.2)))) Tryz.underlying234 .r rfl) ?_
    iterate 5 refine go ?_
    refine AL.sT rfl rfl rfl rfl (fun g=>AR (l:=s8) (fx:=(fun q=>((.str q.1),(.int .i64 q.2)))) Tryz.underlying234 (.we g rfl) rfl) ?_
    exact wk
instance:CF 109:=⟨Tryz.call109,@nz⟩
theorem uw{n:Nat}{a1:(List UInt8)}{r:(List Int)}(hm:dU n a1=some r):Fn Tryz.prog 222 [(.str a1)] (.sl (r.map D.i)):=by
 unfold dU at hm
 refine aaT Tryz.func222 fun g0 w0 bR=>?_
 refine rs 0 [0] 0 ?_
 iterate 9 refine go ?_
 refine AL.s rfl (yV (n:=0) Tryz.underlying9 (.r rfl) rfl) ?_
 iterate 2 refine go ?_
 refine AW.mU (n:=1) 3 3 1 rfl rfl (by simp) ?_
 obtain⟨kA,av,en⟩:=aa hm
 refine lS 0 av (fun x=>[(3,.tk 1 (x.1.map D.i)),(7,.ptr 0 0)]) (fun x=>[.ob (OQ a1 x.2),.tok x.1.length 3 1]) (mt 2) ?_
 rintro n1 ⟨s2,s3⟩ av
 obtain⟨dj,hm,av⟩:=aZ av
 dsimp only[fJ] at hm
 refine go ?_
 obtain⟨v4,ir,hm⟩:=aa hm
 refine AL.s rfl (AQ .r rfl ir) ?_
 iterate 3 refine go ?_
 refine wc hm (fun bB hm=>?_) fun bB hm=>?_
 ·iterate 3 refine go ?_
  refine AL.s rfl (IT (r:=v4) (by assumption) .r) ?_
  iterate 5 refine go ?_
  refine AL.s rfl (n5 (.r rfl) ⟨_,Tryz.underlying21⟩ Tryz.underlying3) ?_
  refine AL.s rfl (aF (ds:=([(IntKind.i64.wrap v4.2.2.1)]:List Int).map D.i) ef (.cons (.r rfl) rfl (En.i.one _) .nil) rfl (by decide)) ?_
  exact wk
 ·exact wk
instance:CF 222:=⟨Tryz.call222,@uw⟩
theorem rI{n:Nat}{a1:(List Int)}{a2:(List Int)}{r:Int}(hm:fK n a1 a2=some r):Fn Tryz.prog 221 [(.sl (a1.map D.i)),(.sl (a2.map D.i))] (.int .i64 r):=by
 unfold fK at hm
 refine aaT Tryz.func221 fun g0 w0 bR=>?_
 refine rs 0 [0,1] 0 ?_
 iterate 7 refine go ?_
 obtain⟨v3,iw,hm⟩:=aa hm
 refine AL.s rfl (qC (n:=0) (f:=D.i) (.r rfl) ef OZ rfl rfl iw) ?_
 iterate 9 refine go ?_
 obtain⟨kA,av,en⟩:=aa hm
 refine lS 0 av (fun x=>[(0,.d (.sl (a1.map D.i))),(1,.d (.sl (a2.map D.i))),(5,.hs 0 0 x.2.length 1),(18,.d (.int .i64 (v3.length:Int))),(19,.d (.int .i64 x.1))]) (fun x=>[.bn (x.2.map D.i) 3 1]) (mt 1) ?_
 rintro n1 ⟨s4,s5⟩ av
 obtain⟨dj,hm,av⟩:=aZ av
 dsimp only[eh] at hm
 iterate 4 refine go ?_
 refine wc hm (fun bB hm=>?_) fun bB hm=>?_
 ·iterate 11 refine go ?_
  obtain⟨v6,oz,hm⟩:=aa hm
  refine go ?_
  obtain⟨v7,mE,hm⟩:=aa hm
  refine AL.s rfl (e9 (f:=D.i) (fun _=>rfl) .r (.r rfl) rfl mE ⟨_,rfl,rfl⟩ En.i) ?_
  refine AL.nil ?_
  refine DP ?_
  refine nq ?_
  refine AW.region ?_
  refine AL.s rfl (gO (.r rfl) (.r rfl)) ?_
  refine AL.s rfl (al .r) ?_
  refine AL.nil ?_
  exact wk
 ·refine go ?_
  obtain rfl:=si hm
  obtain rfl:=si av
  replace hm:=en
  try dsimp only at hm
  iterate 7 refine go ?_
  obtain⟨JH,gr,oJ⟩:=aa hm
  refine lS 0 gr (fun x=>[(1,.d (.sl (a2.map D.i))),(5,.hs 0 0 x.2.length 1),(27,.d (.sl (a1.map D.i))),(28,.d (.int .i64 (a1.length:Int))),(29,.d (.int .i64 x.1))]) (fun x=>[.bn (x.2.map D.i) 3 1]) (mt 1) ?_
  rintro n2 ⟨s8,s9⟩ gr
  obtain⟨xg,hm,gr⟩:=aZ gr
  dsimp only[ei] at hm
  iterate 4 refine go ?_
  refine wc hm (fun di hm=>?_) fun di hm=>?_
  ·iterate 5 refine go ?_
   obtain⟨v10,lC,hm⟩:=aa hm
   iterate 7 refine go ?_
   obtain⟨v11,nw,hm⟩:=aa hm
   refine go ?_
   obtain⟨v12,pc,hm⟩:=aa hm
   refine AL.s rfl (eg (f:=D.i) (fun _=>rfl) .r rfl pc mK) ?_
   refine AL.s rfl (bJ .r) ?_
   refine AL.nil ?_
   refine AW.kz ?_
   refine AL.s rfl (lR .r) ?_
   refine AL.s rfl (al .r) ?_
   refine AL.s rfl (gO (.r rfl) (.r rfl)) ?_
   obtain⟨qs,xh,hm⟩:=aa hm
   refine go ?_
   obtain⟨uH,vu,hm⟩:=aa hm
   refine AL.s rfl (e9 (f:=D.i) (fun _=>rfl) .r (.r rfl) rfl vu ⟨_,rfl,rfl⟩ En.i) ?_
   refine AL.nil ?_
   refine AW.kz ?_
   refine AL.s rfl (al .r) ?_
   refine AL.s rfl (tp (f:=D.i) (.r rfl) ef) ?_
   refine AL.s rfl (al .r) ?_
   refine AL.nil ?_
   refine AW.block ?_
   obtain⟨t_3,ED,LA⟩:=aa hm
   refine lS 0 ED (fun x=>[(1,.d (.sl (a2.map D.i))),(5,.hs 0 0 x.2.2.length 1),(8,.d (.int .i64 v10)),(9,.d (.int .i64 x.1)),(27,.d (.sl (a1.map D.i))),(28,.d (.int .i64 (a1.length:Int))),(29,.d (.int .i64 s8)),(41,.d (.sl (a2.map D.i))),(42,.d (.int .i64 (a2.length:Int))),(43,.d (.int .i64 x.2.1))]) (fun x=>[.bn (x.2.2.map D.i) 3 1]) (mt 1) ?_
   rintro n3 ⟨s15,XY,WS⟩ ED
   obtain⟨WR,hm,ED⟩:=aZ ED
   dsimp only[dB] at hm
   iterate 4 refine go ?_
   refine wc hm (fun mq hm=>?_) fun mq hm=>?_
   ·iterate 5 refine go ?_
    obtain⟨ES,yd,hm⟩:=aa hm
    iterate 9 refine go ?_
    obtain⟨iP,hm,hZ⟩:=aa hm
    refine cS (t:=iP) 0 (fun x=>[(1,.d (.sl (a2.map D.i))),(5,.hs 0 0 WS.length 1),(8,.d (.int .i64 v10)),(10,.d (.int .i64 XY)),(12,.d (.int .i64 x)),(27,.d (.sl (a1.map D.i))),(28,.d (.int .i64 (a1.length:Int))),(29,.d (.int .i64 s8)),(41,.d (.sl (a2.map D.i))),(42,.d (.int .i64 (a2.length:Int))),(43,.d (.int .i64 XY))]) (fun x=>[.bn (WS.map D.i) 3 1]) ?_ ?_
    ·skip
     iterate 5 refine go ?_
     refine wc hm (fun BS hm=>?_) fun BS hm=>?_
     ·refine AW.drawn [([],[]),([],[]),([],[]),([0],[]),([0],[]),([],[]),([],[]),([],[]),([0],[]),([0],[]),([],[]),([],[]),([],[])] mo (by decide+kernel) ?_
      iterate 3 refine go ?_
      obtain⟨zz,Io,hm⟩:=aa hm
      refine go ?_
      obtain⟨v20,N5,hm⟩:=aa hm
      refine AD.s (ws:=[]) rfl rfl (fun H' _ hH=>eg (f:=D.i) (fun _=>rfl) .r ((hH _ (by simp)).trans rfl) N5 mK) ?_
      refine AD.s (ws:=[]) rfl rfl (fun H' _ hH=>lR .r) ?_
      refine AD.s (ws:=[]) rfl rfl (fun H' _ hH=>al .r) ?_
      refine AD.s (ws:=[]) rfl rfl (fun H' _ hH=>gO (.r rfl) (.r rfl)) ?_
      obtain⟨v21,Ik,hm⟩:=aa hm
      refine go ?_
      obtain⟨v22,Il,hm⟩:=aa hm
      refine AD.s (ws:=[]) rfl rfl (fun H' _ hH=>eg (f:=D.i) (fun _=>rfl) .r ((hH _ (by simp)).trans rfl) Il mK) ?_
      refine AD.s (ws:=[]) rfl rfl (fun H' _ hH=>IU (.r rfl) (.r rfl) (.r rfl)) ?_
      refine AD.s (ws:=[]) rfl rfl (fun H' _ hH=>gO (.r rfl) (.r rfl)) ?_
      refine AD.s (ws:=[]) rfl rfl (fun H' _ hH=>bJ .r) ?_
      refine AD.nil ?_
      exact wk
     ·exact wk
    ·rintro s23 rfl
     replace hm:=hZ
     try dsimp only at hm
     iterate 7 refine go ?_
     obtain⟨v24,QN,hm⟩:=aa hm
     refine go ?_
     obtain⟨v25,K9,hm⟩:=aa hm
     refine AL.s rfl (eg (f:=D.i) (fun _=>rfl) .r rfl K9 mK) ?_
     refine AL.s rfl (al .r) ?_
     refine AL.s rfl (bJ .r) ?_
     obtain⟨v26,QO,hm⟩:=aa hm
     refine go ?_
     obtain⟨US,N6,hm⟩:=aa hm
     refine AL.s rfl (e9 (f:=D.i) (fun _=>rfl) .r (.r rfl) rfl N6 ⟨_,rfl,rfl⟩ En.i) ?_
     refine AL.nil ?_
     refine DP ?_
     refine nq ?_
     refine AW.region ?_
     refine AL.s rfl (gO (.r rfl) (.r rfl)) ?_
     refine AL.s rfl (al .r) ?_
     refine AL.nil ?_
     exact wk
   ·exact wk
  ·refine go ?_
   obtain rfl:=si hm
   obtain rfl:=si gr
   replace hm:=oJ
   try dsimp only at hm
   iterate 4 refine go ?_
   obtain⟨v28,WU,hm⟩:=aa hm
   refine go ?_
   obtain⟨UT,QP,hm⟩:=aa hm
   refine AL.s rfl (eg (f:=D.i) (fun _=>rfl) .r rfl QP mK) ?_
   refine AL.s rfl (bJ .r) ?_
   refine AL.nil ?_
   refine AW.ret ?_
   exact wk
instance:CF 221:=⟨Tryz.call221,@rI⟩
theorem vz{n:Nat}{a1:(List UInt8)}{a2:(List UInt8)}{r:Int}(hm:mh n a1 a2=some r):Fn Tryz.prog 152 [(.str a1),(.str a2)] (.int .i64 r):=by
 unfold mh at hm
 refine aaT Tryz.func152 fun g0 w0 bR=>?_
 exact wk
instance:CF 152:=⟨Tryz.call152,@vz⟩
end Go.Proofs.YtjdnbobilgamdaaGreatDoor.Ab
