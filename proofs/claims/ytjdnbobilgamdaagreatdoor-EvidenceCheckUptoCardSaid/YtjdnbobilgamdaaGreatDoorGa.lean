/- The functions do what they are in plain Lean. Conditions: none. -/
import Derived.Test.YtjdnbobilgamdaaGreatDoorOk
import Derived.Test.YtjdnbobilgamdaaGreatDoorMi
import Derived.Test.YtjdnbobilgamdaaGreatDoorE32
import Derived.Test.YtjdnbobilgamdaaGreatDoorFh
set_option maxRecDepth 100000
namespace Go.Proofs.YtjdnbobilgamdaaGreatDoor.Ab
open Go
attribute [local irreducible] AL AD AW tE zT lT
set_option maxHeartbeats 20000000 in
theorem qm{n:Nat}{a1:(List af)}{a2:(List ae)}{a3:mV}{r:Bool}(hm:bS n a1 a2 a3=some r):Fn Tryz.prog 3 [(.sl (a1.map af.e)),(.sl (a2.map ae.e)),(mV.e a3)] (.bool r):=by
 unfold bS at hm
 refine Fn.ar (fnn:=Tryz.f3) Tryz.func3 rfl (aaR rfl) (fun g0 w0 bR=>?_)
 refine AW.reset 0 [(0,.d (.sl (a1.map af.e))),(1,.d (.sl (a2.map ae.e))),(2,.d (mV.e a3))] [] (aQ.g0 bR (by simp)) ⟨[],rfl,rfl,rfl,⟨(.d rfl),(.d rfl),(.d rfl),trivial⟩,trivial,.nil⟩ ?_
 refine AW.kz ?_
 refine AL.s rfl (cW (n:=0) (.e rfl) rfl rfl rfl) ?_
 refine AL.s rfl (bJ (.e rfl)) ?_
 refine AL.nil ?_
 refine AW.seq ?_
 refine AW.kz ?_
 refine AL.s rfl (cb Tryz.call4 (.e rfl) .nil Ev.Gt) ?_
 refine AL.s rfl (xK (.r rfl)) ?_
 refine AL.s rfl (al (.e rfl)) ?_
 refine AL.sF rfl rfl rfl rfl (fun g=>al (.e rfl)) ?_
 refine AL.sF rfl rfl rfl rfl (fun g=>al (.e rfl)) ?_
 obtain⟨v4,ir,hm⟩:=aa hm
 refine AL.sF rfl rfl rfl rfl (fun g=>cb Tryz.call5 (.e rfl) (.cons (.we (nt g) rfl rfl) (.cons (.we (nt g) rfl rfl) .nil)) (nC (fU (nt g) ir))) ?_
 refine AL.sF rfl rfl rfl rfl (fun g=>xK (.we (nt g) rfl rfl)) ?_
 refine AL.s rfl (sv (.r rfl) rfl (fun h=>(.we (nt h) rfl rfl))) ?_
 refine AL.s rfl (al (.e rfl)) ?_
 refine AL.sF rfl rfl rfl rfl (fun g=>bd (.e rfl) rK) ?_
 refine AL.sF rfl rfl rfl rfl (fun g=>bo (.we (nt g) rfl) rfl rfl EJ) ?_
 refine AL.sF rfl rfl rfl rfl (fun g=>tp (f:=aB.e) (.we (nt g) rfl rfl) Ir) ?_
 refine AL.sF rfl rfl rfl rfl (fun g=>xL (.we (nt g) rfl rfl) (.r rfl)) ?_
 refine AL.s rfl (sv (.r rfl) rfl (fun h=>(.we (nt h) rfl rfl))) ?_
 refine AL.nil ?_
 refine AW.cond (b:=_) rfl (fun bB=>?_) (fun bB=>?_)
 ·replace hm:=fU bB hm
  refine AW.kz ?_
  refine AL.s rfl (cb Tryz.call4 (.e rfl) .nil Ev.Gt) ?_
  refine AL.s rfl (bJ (.e rfl)) ?_
  refine AL.nil ?_
  refine AW.ret ?_
  refine mj ?_
  obtain rfl:=aa5 hm
  exact kg.d (.tmp (.e rfl) .nil) rfl rfl
 ·replace hm:=Ce bB hm
  refine AW.skip ?_
  refine nq ?_
  refine AW.kz ?_
  refine AL.s rfl (al (.e rfl)) ?_
  obtain⟨v5,jL,hm⟩:=aa hm
  refine AL.s rfl (cb Tryz.call6 (.e rfl) (.cons (.r rfl) .nil) (rZ jL)) ?_
  refine AL.s rfl (bJ (.e rfl)) ?_
  refine AL.nil ?_
  refine AW.ml [([],[]),([],[]),([],[]),([0],[]),([],[]),([0],[]),([],[]),([0],[]),([],[]),([],[]),([],[])] mo (by decide+kernel) ?_
  refine AD.s (ws:=[]) rfl rfl (fun H' _ hH=>al (.e rfl)) ?_
  refine AD.s (ws:=[]) rfl rfl (fun H' _ hH=>al (.e rfl)) ?_
  refine AD.s (ws:=[]) rfl rfl (fun H' _ hH=>bd (.e rfl) yD) ?_
  refine AD.s (ws:=[]) rfl rfl (fun H' _ hH=>bo (.e rfl) ((hH _ (by simp)).trans rfl) rfl mK) ?_
  refine AD.s (ws:=[]) rfl rfl (fun H' _ hH=>bd (.e rfl) yE) ?_
  refine AD.s (ws:=[]) rfl rfl (fun H' _ hH=>bo (.e rfl) ((hH _ (by simp)).trans rfl) rfl mK) ?_
  refine AD.s (ws:=[]) rfl rfl (fun H' _ hH=>bd (.e rfl) rK) ?_
  refine AD.s (ws:=[]) rfl rfl (fun H' _ hH=>bo (.e rfl) ((hH _ (by simp)).trans rfl) rfl EJ) ?_
  obtain⟨v6,oz,hm⟩:=aa hm
  refine AD.s (ws:=[]) rfl rfl (fun H' _ hH=>cb Tryz.call8 (.e rfl) (.cons (.r rfl) .nil) (k9 oz)) ?_
  obtain⟨v7,mE,hm⟩:=aa hm
  refine AD.s (ws:=[]) rfl rfl (fun H' _ hH=>cb Tryz.call7 (.e rfl) (.cons (.r rfl) (.cons (.r rfl) (.cons (.r rfl) (.cons (.r rfl) (.cons (.r rfl) .nil))))) (fL mE)) ?_
  refine AD.s (ws:=[]) rfl rfl (fun H' _ hH=>bJ (.e rfl)) ?_
  refine AD.nil ?_
  refine AW.seq ?_
  refine AW.kz ?_
  refine AL.s rfl (al (.e rfl)) ?_
  refine AL.s rfl (al (.e rfl)) ?_
  refine AL.s rfl (al (.e rfl)) ?_
  refine AL.s rfl (bd (.e rfl) yD) ?_
  refine AL.s rfl (bo (.e rfl) rfl rfl mK) ?_
  refine AL.s rfl (bd (.e rfl) yE) ?_
  refine AL.s rfl (bo (.e rfl) rfl rfl mK) ?_
  refine AL.s rfl (bd (.e rfl) rK) ?_
  refine AL.s rfl (bo (.e rfl) rfl rfl EJ) ?_
  obtain⟨v8,oA,hm⟩:=aa hm
  refine AL.s rfl (cb Tryz.call9 (.e rfl) (.cons (.r rfl) (.cons (.r rfl) (.cons (.r rfl) (.cons (.r rfl) (.cons (.r rfl) .nil))))) (q_ oA)) ?_
  refine AL.s rfl (xN (.r rfl) (.r rfl)) ?_
  refine AL.nil ?_
  refine AW.cond (b:=_) rfl (fun di=>?_) (fun di=>?_)
  ·replace hm:=fU di hm
   refine AW.reset 0 [] [.row [.d (.int .i64 a3.fA),.d (.int .i64 a3.fB),.d (.sl (a3.b_.map aB.e))]] (aQ.g0 bR (by simp)) ⟨[0],rfl,rfl,rfl,trivial,trivial,(.row rfl (.cons (.d rfl) (.cons (.d rfl) (.cons (.d rfl) .nil))) .nil)⟩ ?_
   refine AW.kz ?_
   refine AL.s rfl (bJ (.e rfl)) ?_
   refine AL.nil ?_
   refine AW.ret ?_
   refine mj ?_
   obtain rfl:=aa5 hm
   exact kg.d (.tmp (.e rfl) .nil) rfl rfl
  ·replace hm:=Ce di hm
   refine AW.skip ?_
   refine nq ?_
   refine AW.seq ?_
   refine AW.kz ?_
   refine AL.s rfl (al (.e rfl)) ?_
   refine AL.s rfl (xN (.r rfl) (.r rfl)) ?_
   refine AL.nil ?_
   refine AW.cond (b:=_) rfl (fun mq=>?_) (fun mq=>?_)
   ·replace hm:=fU mq hm
    refine AW.kz ?_
    refine AL.s rfl (bJ (.e rfl)) ?_
    refine AL.nil ?_
    refine AW.ret ?_
    refine mj ?_
    obtain rfl:=aa5 hm
    exact kg.d (.tmp (.e rfl) .nil) rfl rfl
   ·replace hm:=Ce mq hm
    refine AW.skip ?_
    refine nq ?_
    refine AW.seq ?_
    refine AW.ml [([],[]),([],[]),([],[]),([0],[]),([],[]),([0],[]),([],[]),([],[]),([0],[]),([],[]),([],[]),([],[])] mo (by decide+kernel) ?_
    refine AD.s (ws:=[]) rfl rfl (fun H' _ hH=>al (.e rfl)) ?_
    refine AD.s (ws:=[]) rfl rfl (fun H' _ hH=>al (.e rfl)) ?_
    refine AD.s (ws:=[]) rfl rfl (fun H' _ hH=>bd (.e rfl) yD) ?_
    refine AD.s (ws:=[]) rfl rfl (fun H' _ hH=>bo (.e rfl) ((hH _ (by simp)).trans rfl) rfl mK) ?_
    refine AD.s (ws:=[]) rfl rfl (fun H' _ hH=>bd (.e rfl) yE) ?_
    refine AD.s (ws:=[]) rfl rfl (fun H' _ hH=>bo (.e rfl) ((hH _ (by simp)).trans rfl) rfl mK) ?_
    refine AD.s (ws:=[]) rfl rfl (fun H' _ hH=>gO (.r rfl) (.r rfl)) ?_
    refine AD.s (ws:=[]) rfl rfl (fun H' _ hH=>bd (.e rfl) rK) ?_
    refine AD.s (ws:=[]) rfl rfl (fun H' _ hH=>bo (.e rfl) ((hH _ (by simp)).trans rfl) rfl EJ) ?_
    obtain⟨v9,pR,hm⟩:=aa hm
    refine AD.s (ws:=[]) rfl rfl (fun H' _ hH=>cb Tryz.call8 (.e rfl) (.cons (.r rfl) .nil) (k9 pR)) ?_
    obtain⟨v10,lC,hm⟩:=aa hm
    refine AD.s (ws:=[]) rfl rfl (fun H' _ hH=>cb Tryz.call7 (.e rfl) (.cons (.r rfl) (.cons (.r rfl) (.cons (.r rfl) (.cons (.r rfl) (.cons (.r rfl) .nil))))) (fL lC)) ?_
    refine AD.s (ws:=[]) rfl rfl (fun H' _ hH=>xN (.r rfl) (.r rfl)) ?_
    refine AD.nil ?_
    refine AW.cond (b:=_) rfl (fun BS=>?_) (fun BS=>?_)
    ·replace hm:=fU BS hm
     refine AW.kz ?_
     refine AL.s rfl (bJ (.e rfl)) ?_
     refine AL.nil ?_
     refine AW.ret ?_
     refine mj ?_
     obtain rfl:=aa5 hm
     exact kg.d (.tmp (.e rfl) .nil) rfl rfl
    ·replace hm:=Ce BS hm
     refine AW.skip ?_
     refine nq ?_
     refine AW.seq ?_
     refine AW.kz ?_
     refine AL.s rfl (bd (.e rfl) rK) ?_
     refine AL.s rfl (bo (.e rfl) rfl rfl EJ) ?_
     refine AL.s rfl (tp (f:=aB.e) (.r rfl) Ir) ?_
     refine AL.s rfl (al (.e rfl)) ?_
     refine AL.nil ?_
     refine AW.block ?_
     obtain⟨kA,av,en⟩:=aa hm
     refine AW.IS (σ:=Int) (τ:=(Bool⊕Unit)) 0 (fun x=>[(1,.d (.sl (a2.map ae.e))),(5,.ptr 0 0),(7,.d (.sl (v5.map af.e))),(66,.d (.int .i64 (a3.b_.length:Int))),(67,.d (.int .i64 x))]) (fun x=>[.row [.d (.int .i64 a3.fA),.d (.int .i64 a3.fB),.d (.sl (a3.b_.map aB.e))]]) av (aQ.g0 bR (by simp)) ⟨[0],rfl,rfl,rfl,⟨(.d rfl),(.ptr rfl),(.d rfl),(.d rfl),(.d rfl),trivial⟩,trivial,(.row rfl (.cons (.d rfl) (.cons (.d rfl) (.cons (.d rfl) .nil))) .nil)⟩ ?_
     rintro n1 i_ av
     obtain⟨dj,hm,av⟩:=aZ av
     replace hm:bM n _ _ _ i_=some dj:=hm
     unfold bM at hm
     try dsimp only at hm
     refine AW.kz ?_
     refine AL.s rfl (uX (.r rfl) (.r rfl)) ?_
     refine AL.nil ?_
     refine AW.seq ?_
     refine AW.cond (b:=_) rfl (fun Cu=>?_) (fun Cu=>?_)
     ·replace hm:=fU Cu hm
      refine AW.skip ?_
      refine nq ?_
      refine AW.seq ?_
      refine AW.block ?_
      refine AW.kz ?_
      refine AL.s rfl (al (.e rfl)) ?_
      refine AL.s rfl (bJ (.e rfl)) ?_
      refine AL.nil ?_
      refine AW.free ?_
      refine AW.free ?_
      refine AW.ml [([],[]),([],[]),([0],[]),([],[]),([],[]),([],[]),([],[1]),([],[]),([0],[]),([],[]),([],[]),([],[]),([],[]),([1],[1]),([],[])] mo (by decide+kernel) ?_
      refine AD.s (ws:=[]) rfl rfl (fun H' _ hH=>aF (ds:=([]:List aB).map aB.e) EI .nil rfl (by decide)) ?_
      refine AD.s (ws:=[]) rfl rfl (fun H' _ hH=>bd (.e rfl) rK) ?_
      refine AD.s (ws:=[]) rfl rfl (fun H' _ hH=>bo (.e rfl) ((hH _ (by simp)).trans rfl) rfl EJ) ?_
      refine AD.s (ws:=[]) rfl rfl (fun H' _ hH=>al (.e rfl)) ?_
      obtain⟨v12,pc,hm⟩:=aa hm
      refine AD.s (ws:=[]) rfl rfl (fun H' _ hH=>nD (f:=aB.e) (.r rfl) Ir rfl (.r rfl) lG pc) ?_
      obtain⟨qs,xh,hm⟩:=aa hm
      refine AD.s (ws:=[]) rfl rfl (fun H' _ hH=>cb Tryz.call8 (.e rfl) (.cons (.r rfl) .nil) (k9 xh)) ?_
      obtain⟨uH,vu,hm⟩:=aa hm
      refine AD.s (ws:=[(1,_)]) rfl rfl (fun H' _ hH=>oX (res:=1) (f:=aB.e) (l:=([]:List aB)) (l':=qs) EI (.e rfl) (.r rfl) ((hH _ (by simp)).trans rfl) lG vu) ?_
      refine AD.s (ws:=[]) rfl rfl (fun H' _ hH=>bd (.e rfl) rK) ?_
      refine AD.s (ws:=[]) rfl rfl (fun H' _ hH=>bo (.e rfl) ((hH _ (by simp)).trans rfl) rfl EJ) ?_
      refine AD.s (ws:=[]) rfl rfl (fun H' _ hH=>al (.e rfl)) ?_
      refine AD.s (ws:=[]) rfl rfl (fun H' _ hH=>gO (.r rfl) (.r rfl)) ?_
      obtain⟨uM,rH,hm⟩:=aa hm
      refine AD.s (ws:=[]) rfl rfl (fun H' _ hH=>nD (f:=aB.e) (.r rfl) Ir (.r rfl) rfl lG rH) ?_
      obtain⟨xB,zy,hm⟩:=aa hm
      refine AD.s (ws:=[]) rfl rfl (fun H' _ hH=>cb Tryz.call8 (.e rfl) (.cons (.r rfl) .nil) (k9 zy)) ?_
      obtain⟨v17,Gx,hm⟩:=aa hm
      refine AD.s (ws:=[(1,_)]) rfl rfl (fun H' _ hH=>Az (f:=aB.e) (l':=xB) EI (.e rfl) (.r rfl) ((hH _ (by simp)).trans rfl) rfl lG Gx) ?_
      refine AD.s (ws:=[]) rfl rfl (fun H' _ hH=>AU (.e rfl)) ?_
      refine AD.nil ?_
      refine AW.seq ?_
      refine AW.kz ?_
      refine AL.s rfl (al (.e rfl)) ?_
      refine AL.s rfl (al (.e rfl)) ?_
      refine AL.s rfl (bd (.e rfl) yD) ?_
      refine AL.s rfl (bo (.e rfl) rfl rfl mK) ?_
      refine AL.s rfl (bd (.e rfl) yE) ?_
      refine AL.s rfl (bo (.e rfl) rfl rfl mK) ?_
      refine AL.s rfl (Fk (.e rfl)) ?_
      obtain⟨ES,yd,hm⟩:=aa hm
      refine AL.s rfl (cb Tryz.call7 (.e rfl) (.cons (.r rfl) (.cons (.r rfl) (.cons (.r rfl) (.cons (.r rfl) (.cons (.r rfl) .nil))))) (fL yd)) ?_
      refine AL.s rfl (xM (.r rfl) (.r rfl)) ?_
      refine AL.nil ?_
      refine AW.cond (b:=_) rfl (fun QQ=>?_) (fun QQ=>?_)
      ·replace hm:=fU QQ hm
       refine AW.kz ?_
       refine AL.s rfl (bJ (.e rfl)) ?_
       refine AL.nil ?_
       refine AW.ret ?_
       refine mj ?_
       refine xG ?_
       refine mj ?_
       refine mj ?_
       obtain rfl:=aa5 hm
       obtain rfl:=aa5 av
       replace hm:=en
       try dsimp only at hm
       refine xG ?_
       refine mj ?_
       obtain rfl:=aa5 hm
       exact kg.d (.tmp (.e rfl) .nil) rfl rfl
      ·replace hm:=Ce QQ hm
       refine AW.skip ?_
       refine nq ?_
       refine AW.kz ?_
       refine AL.s rfl (bd (.e rfl) rK) ?_
       refine AL.s rfl (bo (.e rfl) rfl rfl EJ) ?_
       obtain⟨zz,Io,hm⟩:=aa hm
       refine AL.s rfl (lQ (v:=.hs 3 0 zz.length 11) (H':=[.row [.d (.int .i64 a3.fA),.d (.int .i64 a3.fB),.d (.sl (a3.b_.map aB.e))],.tok v17.length 39 11,.free,.bn (zz.map aB.e) 39 11]) [] Tryz.call8 (.e rfl) (.cons (.e rfl) .nil) (zL Io) rfl .nil rfl rfl rfl rfl rfl rfl rfl rfl) ?_
       refine AL.s rfl (AX (.e rfl)) ?_
       refine AL.nil ?_
       refine AW.kz ?_
       refine AL.s rfl (lR (.e rfl)) ?_
       refine AL.s rfl (al (.e rfl)) ?_
       obtain⟨v20,N5,hm⟩:=aa hm
       refine AL.s rfl (rW (f:=aB.e) (l:=zz) (.e rfl) rfl rfl (.r rfl) N5 EI) ?_
       refine AL.s rfl (bd (.e rfl) It) ?_
       obtain⟨v21,Ik,hm⟩:=aa hm
       refine AL.s rfl (Fs (f:=aB.e) (l:=zz) (a:=i_) (o:=10) lG (.e rfl) rfl Ik rfl mK) ?_
       refine AL.s rfl (gO (.r rfl) (.r rfl)) ?_
       obtain⟨v22,Il,hm⟩:=aa hm
       refine AL.s rfl (rW (f:=aB.e) (l:=zz) (.e rfl) rfl rfl (.r rfl) Il EI) ?_
       refine AL.s rfl (bd (.e rfl) It) ?_
       obtain⟨v23,TR,hm⟩:=aa hm
       obtain⟨v24,QN,hm⟩:=aa hm
       refine AL.s rfl (D1 (f:=aB.e) (l:=zz) (a:=i_) (v':=(⟨v23.fA,v23.fB,v23.mD,v23.bD,(IntKind.i64.wrap (v21.fO+(1:Int)))⟩:aB)) (o:=10) lG (.e rfl) (.e rfl) rfl rfl ⟨_,rfl,rfl⟩ rfl TR QN rfl rfl) ?_
       refine AL.nil ?_
       refine AW.reset 0 [(1,.d (.sl (a2.map ae.e))),(5,.ptr 0 0),(7,.d (.sl (v5.map af.e))),(11,.hs 3 0 v24.length 11),(66,.d (.int .i64 (a3.b_.length:Int))),(67,.d (.int .i64 i_))] [.row [.d (.int .i64 a3.fA),.d (.int .i64 a3.fB),.d (.sl (a3.b_.map aB.e))],.tok v17.length 39 11,.dead,.bn (v24.map aB.e) 39 11] (aQ.g0 bR (by simp)) ⟨[0,1,2,3],rfl,rfl,rfl,⟨(.d rfl),(.ptr rfl),(.d rfl),(.hs rfl (qB QN).symm),(.d rfl),(.d rfl),trivial⟩,trivial,(.row rfl (.cons (.d rfl) (.cons (.d rfl) (.cons (.d rfl) .nil))) (.tok rfl (.dead (.bn rfl .nil))))⟩ ?_
       refine AW.kz ?_
       refine AL.s rfl (al (.e rfl)) ?_
       refine AL.s rfl (al (.e rfl)) ?_
       refine AL.s rfl (bd (.e rfl) yD) ?_
       refine AL.s rfl (bo (.e rfl) rfl rfl mK) ?_
       refine AL.s rfl (bd (.e rfl) yE) ?_
       refine AL.s rfl (bo (.e rfl) rfl rfl mK) ?_
       refine AL.s rfl (lR (.e rfl)) ?_
       obtain⟨v25,K9,hm⟩:=aa hm
       refine AL.s rfl (Pk [3] Tryz.call7 (.e rfl) (.d (.r rfl) (.d (.r rfl) (.d (.r rfl) (.d (.r rfl) (.l (f:=aB.e) (l:=v24) (.e rfl) rfl rfl lG rfl .nil))))) (fL K9) rfl) ?_
       refine AL.s rfl (xM (.r rfl) (.r rfl)) ?_
       refine AL.nil ?_
       refine AW.cond (b:=_) rfl (fun N8=>?_) (fun N8=>?_)
       ·replace hm:=fU N8 hm
        refine AW.kz ?_
        refine AL.s rfl (bJ (.e rfl)) ?_
        refine AL.nil ?_
        refine AW.ret ?_
        refine xG ?_
        refine mj ?_
        refine mj ?_
        obtain rfl:=aa5 hm
        obtain rfl:=aa5 av
        replace hm:=en
        try dsimp only at hm
        refine xG ?_
        refine mj ?_
        obtain rfl:=aa5 hm
        exact kg.d (.tmp (.e rfl) .nil) rfl rfl
       ·replace hm:=Ce N8 hm
        refine AW.skip ?_
        refine DP ?_
        refine nq ?_
        refine AW.region ?_
        refine AL.s rfl (gO (.r rfl) (.r rfl)) ?_
        refine AL.s rfl (al (.e rfl)) ?_
        refine AL.nil ?_
        obtain rfl:=aa5 hm
        exact nq ⟨_,av,⟨[0],rfl,rfl,rfl,⟨(.d rfl),(.ptr rfl),(.d rfl),(.d rfl),(.d rfl),trivial⟩,trivial,(.row rfl (.cons (.d rfl) (.cons (.d rfl) (.cons (.d rfl) .nil))) .nil)⟩⟩
     ·replace hm:=Ce Cu hm
      refine AW.exit ?_
      refine zQ ?_
      refine zQ ?_
      obtain rfl:=aa5 hm
      obtain rfl:=aa5 av
      replace hm:=en
      try dsimp only at hm
      refine SC ?_
      refine nq ?_
      refine AW.kz ?_
      refine AL.s rfl (bJ (.e rfl)) ?_
      refine AL.nil ?_
      refine AW.ret ?_
      obtain rfl:=aa5 hm
      exact kg.d (.tmp (.e rfl) .nil) rfl rfl
end Go.Proofs.YtjdnbobilgamdaaGreatDoor.Ab
