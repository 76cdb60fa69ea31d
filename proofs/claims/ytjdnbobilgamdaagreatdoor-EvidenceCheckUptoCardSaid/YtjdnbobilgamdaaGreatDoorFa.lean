/- The functions do what they are in plain Lean. Conditions: none. -/
import Derived.Test.YtjdnbobilgamdaaGreatDoorTg
import Derived.Test.YtjdnbobilgamdaaGreatDoorMi
import Derived.Test.YtjdnbobilgamdaaGreatDoorJm
import Derived.Test.YtjdnbobilgamdaaGreatDoorEs
set_option maxRecDepth 100000
set_option maxHeartbeats 20000000
namespace Go.Proofs.YtjdnbobilgamdaaGreatDoor.Ab
open Go
attribute [local irreducible] bj AL AD AW tE zT lT
theorem fZ{n:Nat}{H:List HE}{a1:(List ae)}{p2:ae→Option Bool}{r:Int}{bu:FuncId}{bw:List V}(dQ:∀ (a:Array Value) (w:World),(callFunc bu a).run Tryz.prog w=.ok (.enter bu a) w)(gq:∀ (y1:ae) (b:Bool),p2 y1=some b→aJ Tryz.prog bu (.d (ae.e y1)::bw) H fun r' H'=>r'=.d (.bool b)∧H'=H)(hm:bX n a1 p2=some r):aJ Tryz.prog 69 [.d (.sl (a1.map ae.e)),.fn (.func bu) bw] H fun r' H'=>r'=.d (.int .i64 r)∧H'=H:=by
 unfold bX at hm
 refine aaU Tryz.func69 fun g0 w0 bR=>?_
 iterate 10 refine go ?_
 obtain⟨kA,av,en⟩:=aa hm
 refine AW.vZ (σ:=Int) (τ:=(Int⊕Unit)) [0,1,7] (fun x=>[(8,.d (.int .i64 x))]) av ⟨by first|exact .of rfl|exact .d rfl,trivial⟩ ?_
 rintro n1 s3 av
 obtain⟨dj,hm,av⟩:=aZ av
 dsimp only[bP] at hm
 iterate 4 refine go ?_
 refine wc hm (fun bB hm=>?_) fun bB hm=>?_
 ·iterate 11 refine go ?_
  obtain⟨v4,ir,hm⟩:=aa hm
  iterate 2 refine go ?_
  obtain⟨v5,jL,hm⟩:=aa hm
  refine AL.s rfl (bZ dQ .r (.cons .r .nil) (gq _ _ jL)) ?_
  refine go ?_
  refine wc hm (fun di hm=>?_) fun di hm=>?_
  ·exact wk
  ·iterate 5 refine go ?_
   obtain rfl:=si hm
   exact Exists.intro _ ⟨av,⟨by first|exact .of rfl|exact .d rfl,trivial⟩,⟨rfl,rfl,rfl,trivial⟩,rfl⟩
 ·exact wk
theorem fG{n:Nat}{H:List HE}{a1:(List ae)}{p2:ae→Option Bool}{r:Bool}{bu:FuncId}{bw:List V}(dQ:∀ (a:Array Value) (w:World),(callFunc bu a).run Tryz.prog w=.ok (.enter bu a) w)(gq:∀ (y1:ae) (b:Bool),p2 y1=some b→aJ Tryz.prog bu (.d (ae.e y1)::bw) H fun r' H'=>r'=.d (.bool b)∧H'=H)(hm:bq n a1 p2=some r):aJ Tryz.prog 37 [.d (.sl (a1.map ae.e)),.fn (.func bu) bw] H fun r' H'=>r'=.d (.bool r)∧H'=H:=by
 unfold bq at hm
 refine aaU Tryz.func37 fun g0 w0 bR=>?_
 iterate 6 refine go ?_
 obtain⟨v3,iw,hm⟩:=aa hm
 refine AL.s rfl (bZ Tryz.call69 .r (.cons .r (.cons .r .nil)) (fZ dQ gq iw)) ?_
 exact wk
theorem vq{n:Nat}{a1:Int}{r:Bool}(hm:jM n a1=some r):Fn Tryz.prog 36 [(.int .i64 a1)] (.bool r):=by
 unfold jM at hm
 refine aaT Tryz.func36 fun g0 w0 bR=>?_
 exact wk
instance:CF 36:=⟨Tryz.call36,@vq⟩
theorem qR{n:Nat}{a1:ae}{r:Bool}(hm:dY n a1=some r):Fn Tryz.prog 35 [(ae.e a1)] (.bool r):=by
 unfold dY at hm
 refine aaT Tryz.func35 fun g0 w0 bR=>?_
 refine go ?_
 refine AL.s rfl (cW (n:=0) .r rfl rfl rfl) ?_
 exact wk
theorem r9{n:Nat}{a1:(List ae)}{r:Bool}(hm:eR n a1=some r):Fn Tryz.prog 14 [(.sl (a1.map ae.e))] (.bool r):=by
 unfold eR at hm
 refine aaT Tryz.func14 fun g0 w0 bR=>?_
 iterate 13 refine go ?_
 obtain⟨v2,ui,hm⟩:=aa hm
 refine AL.sT rfl rfl rfl rfl (fun g=>bZ Tryz.call37 .r (.cons (.we g rfl) (.cons (.we g rfl) .nil)) (fG Tryz.call35 (fun _ _ hb=>(qR hb).at _) (fU g ui))) ?_
 exact wk
instance:CF 14:=⟨Tryz.call14,@r9⟩
theorem cF{n:Nat}{H:List HE}{a1:(List af)}{p2:af→Option Bool}{r:Int}{bu:FuncId}{bw:List V}(dQ:∀ (a:Array Value) (w:World),(callFunc bu a).run Tryz.prog w=.ok (.enter bu a) w)(gq:∀ (y1:af) (b:Bool),p2 y1=some b→aJ Tryz.prog bu (.d (af.e y1)::bw) H fun r' H'=>r'=.d (.bool b)∧H'=H)(hm:aP n a1 p2=some r):aJ Tryz.prog 38 [.d (.sl (a1.map af.e)),.fn (.func bu) bw] H fun r' H'=>r'=.d (.int .i64 r)∧H'=H:=by
 unfold aP at hm
 refine aaU Tryz.func38 fun g0 w0 bR=>?_
 iterate 10 refine go ?_
 obtain⟨kA,av,en⟩:=aa hm
 refine AW.vZ (σ:=Int) (τ:=(Int⊕Unit)) [0,1,7] (fun x=>[(8,.d (.int .i64 x))]) av ⟨by first|exact .of rfl|exact .d rfl,trivial⟩ ?_
 rintro n1 s3 av
 obtain⟨dj,hm,av⟩:=aZ av
 dsimp only[az] at hm
 iterate 4 refine go ?_
 refine wc hm (fun bB hm=>?_) fun bB hm=>?_
 ·iterate 11 refine go ?_
  obtain⟨v4,ir,hm⟩:=aa hm
  iterate 2 refine go ?_
  obtain⟨v5,jL,hm⟩:=aa hm
  refine AL.s rfl (bZ dQ .r (.cons .r .nil) (gq _ _ jL)) ?_
  refine go ?_
  refine wc hm (fun di hm=>?_) fun di hm=>?_
  ·exact wk
  ·iterate 5 refine go ?_
   obtain rfl:=si hm
   exact Exists.intro _ ⟨av,⟨by first|exact .of rfl|exact .d rfl,trivial⟩,⟨rfl,rfl,rfl,trivial⟩,rfl⟩
 ·exact wk
theorem eT{n:Nat}{H:List HE}{a1:(List af)}{p2:af→Option Bool}{r:Bool}{bu:FuncId}{bw:List V}(dQ:∀ (a:Array Value) (w:World),(callFunc bu a).run Tryz.prog w=.ok (.enter bu a) w)(gq:∀ (y1:af) (b:Bool),p2 y1=some b→aJ Tryz.prog bu (.d (af.e y1)::bw) H fun r' H'=>r'=.d (.bool b)∧H'=H)(hm:bc n a1 p2=some r):aJ Tryz.prog 15 [.d (.sl (a1.map af.e)),.fn (.func bu) bw] H fun r' H'=>r'=.d (.bool r)∧H'=H:=by
 unfold bc at hm
 refine aaU Tryz.func15 fun g0 w0 bR=>?_
 iterate 6 refine go ?_
 obtain⟨v3,iw,hm⟩:=aa hm
 refine AL.s rfl (bZ Tryz.call38 .r (.cons .r (.cons .r .nil)) (cF dQ gq iw)) ?_
 exact wk
theorem nv{n:Nat}{H:List HE}{a1:(List Int)}{p2:Int→Option Bool}{r:Int}{bu:FuncId}{bw:List V}(dQ:∀ (a:Array Value) (w:World),(callFunc bu a).run Tryz.prog w=.ok (.enter bu a) w)(gq:∀ (y1:Int) (b:Bool),p2 y1=some b→aJ Tryz.prog bu (.d (.int .u8 y1)::bw) H fun r' H'=>r'=.d (.bool b)∧H'=H)(hm:fH n a1 p2=some r):aJ Tryz.prog 121 [.d (.sl (a1.map (D.int .u8))),.fn (.func bu) bw] H fun r' H'=>r'=.d (.int .i64 r)∧H'=H:=by
 unfold fH at hm
 refine aaU Tryz.func121 fun g0 w0 bR=>?_
 iterate 10 refine go ?_
 obtain⟨kA,av,en⟩:=aa hm
 refine AW.vZ (σ:=Int) (τ:=(Int⊕Unit)) [0,1,7] (fun x=>[(8,.d (.int .i64 x))]) av ⟨by first|exact .of rfl|exact .d rfl,trivial⟩ ?_
 rintro n1 s3 av
 obtain⟨dj,hm,av⟩:=aZ av
 dsimp only[eF] at hm
 iterate 4 refine go ?_
 refine wc hm (fun bB hm=>?_) fun bB hm=>?_
 ·iterate 11 refine go ?_
  obtain⟨v4,ir,hm⟩:=aa hm
  iterate 2 refine go ?_
  obtain⟨v5,jL,hm⟩:=aa hm
  refine AL.s rfl (bZ dQ .r (.cons .r .nil) (gq _ _ jL)) ?_
  refine go ?_
  refine wc hm (fun di hm=>?_) fun di hm=>?_
  ·exact wk
  ·iterate 5 refine go ?_
   obtain rfl:=si hm
   exact Exists.intro _ ⟨av,⟨by first|exact .of rfl|exact .d rfl,trivial⟩,⟨rfl,rfl,rfl,trivial⟩,rfl⟩
 ·exact wk
theorem mn{n:Nat}{H:List HE}{a1:(List Int)}{p2:Int→Option Bool}{r:Bool}{bu:FuncId}{bw:List V}(dQ:∀ (a:Array Value) (w:World),(callFunc bu a).run Tryz.prog w=.ok (.enter bu a) w)(gq:∀ (y1:Int) (b:Bool),p2 y1=some b→aJ Tryz.prog bu (.d (.int .u8 y1)::bw) H fun r' H'=>r'=.d (.bool b)∧H'=H)(hm:dm n a1 p2=some r):aJ Tryz.prog 70 [.d (.sl (a1.map (D.int .u8))),.fn (.func bu) bw] H fun r' H'=>r'=.d (.bool r)∧H'=H:=by
 unfold dm at hm
 refine aaU Tryz.func70 fun g0 w0 bR=>?_
 iterate 6 refine go ?_
 obtain⟨v3,iw,hm⟩:=aa hm
 refine AL.s rfl (bZ Tryz.call121 .r (.cons .r (.cons .r .nil)) (nv dQ gq iw)) ?_
 exact wk
theorem uv{n:Nat}{a1:Int}{c2:Int}{c3:Int}{r:Bool}(hm:iy n a1 c2 c3=some r):Lt Tryz.prog 71 [.d (.int .u8 a1),.ptr 0 0,.ptr 1 0] [.row [.d (.int .u8 c2)],.row [.d (.int .u8 c3)]] (.bool r):=by
 unfold iy at hm
 refine aaU Tryz.func71 fun g0 w0 bR=>?_
 exact wk
theorem xd{n:Nat}{a1:(List UInt8)}{a2:Int}{a3:Int}{r:Bool}(hm:fg n a1 a2 a3=some r):Fn Tryz.prog 39 [(.str a1),(.int .u8 a2),(.int .u8 a3)] (.bool r):=by
 unfold fg at hm
 refine aaT Tryz.func39 fun g0 w0 bR=>?_
 refine go ?_
 refine AL.s rfl (cW (n:=0) .r rfl rfl rfl) ?_
 refine AL.s rfl (cW (n:=1) .r rfl rfl rfl) ?_
 iterate 4 refine go ?_
 refine AL.s rfl (J5 (.r rfl) Tryz.underlying9 Tryz.underlying136 Tryz.underlying5) ?_
 refine AL.s rfl (mz (.cons .r (.cons .r .nil))) ?_
 obtain⟨v4,ir,hm⟩:=aa hm
 refine AL.s rfl (bZ Tryz.call70 .r (.cons .r (.cons .r .nil)) (mn Tryz.call71 (fun _ _ hb=>Lt.at [0,1] (uv hb) (.cons rfl rfl (.cons rfl rfl .nil)) (.cons (.d _) (.cons (.ptr rfl) (.cons (.ptr rfl) .nil))) rfl) ir)) ?_
 exact wk
instance:CF 39:=⟨Tryz.call39,@xd⟩
theorem l6{n:Nat}{H:List HE}{a1:(List (List UInt8))}{p2:(List UInt8)→Option Bool}{r:Int}{bu:FuncId}{bw:List V}(dQ:∀ (a:Array Value) (w:World),(callFunc bu a).run Tryz.prog w=.ok (.enter bu a) w)(gq:∀ (y1:(List UInt8)) (b:Bool),p2 y1=some b→aJ Tryz.prog bu (.d (.str y1)::bw) H fun r' H'=>r'=.d (.bool b)∧H'=H)(hm:ep n a1 p2=some r):aJ Tryz.prog 72 [.d (.sl (a1.map D.str)),.fn (.func bu) bw] H fun r' H'=>r'=.d (.int .i64 r)∧H'=H:=by
 unfold ep at hm
 refine aaU Tryz.func72 fun g0 w0 bR=>?_
 iterate 10 refine go ?_
 obtain⟨kA,av,en⟩:=aa hm
 refine AW.vZ (σ:=Int) (τ:=(Int⊕Unit)) [0,1,7] (fun x=>[(8,.d (.int .i64 x))]) av ⟨by first|exact .of rfl|exact .d rfl,trivial⟩ ?_
 rintro n1 s3 av
 obtain⟨dj,hm,av⟩:=aZ av
 dsimp only[dM] at hm
 iterate 4 refine go ?_
 refine wc hm (fun bB hm=>?_) fun bB hm=>?_
 ·iterate 11 refine go ?_
  obtain⟨v4,ir,hm⟩:=aa hm
  iterate 2 refine go ?_
  obtain⟨v5,jL,hm⟩:=aa hm
  refine AL.s rfl (bZ dQ .r (.cons .r .nil) (gq _ _ jL)) ?_
  refine go ?_
  refine wc hm (fun di hm=>?_) fun di hm=>?_
  ·exact wk
  ·iterate 5 refine go ?_
   obtain rfl:=si hm
   exact Exists.intro _ ⟨av,⟨by first|exact .of rfl|exact .d rfl,trivial⟩,⟨rfl,rfl,rfl,trivial⟩,rfl⟩
 ·exact wk
theorem fi{n:Nat}{H:List HE}{a1:(List (List UInt8))}{p2:(List UInt8)→Option Bool}{r:Bool}{bu:FuncId}{bw:List V}(dQ:∀ (a:Array Value) (w:World),(callFunc bu a).run Tryz.prog w=.ok (.enter bu a) w)(gq:∀ (y1:(List UInt8)) (b:Bool),p2 y1=some b→aJ Tryz.prog bu (.d (.str y1)::bw) H fun r' H'=>r'=.d (.bool b)∧H'=H)(hm:bx n a1 p2=some r):aJ Tryz.prog 40 [.d (.sl (a1.map D.str)),.fn (.func bu) bw] H fun r' H'=>r'=.d (.bool r)∧H'=H:=by
 unfold bx at hm
 refine aaU Tryz.func40 fun g0 w0 bR=>?_
 iterate 6 refine go ?_
 obtain⟨v3,iw,hm⟩:=aa hm
 refine AL.s rfl (bZ Tryz.call72 .r (.cons .r (.cons .r .nil)) (l6 dQ gq iw)) ?_
 exact wk
theorem nk{n:Nat}{a1:(List UInt8)}{r:Bool}(hm:dr n a1=some r):Fn Tryz.prog 42 [(.str a1)] (.bool r):=by
 unfold dr at hm
 refine aaT Tryz.func42 fun g0 w0 bR=>?_
 iterate 8 refine go ?_
 refine AL.sT rfl rfl rfl rfl (fun g=>jo (.we g rfl rfl) Tryz.underlying9) ?_
 exact wk
instance:CF 42:=⟨Tryz.call42,@nk⟩
theorem s_{n:Nat}{a1:(List UInt8)}{r:Bool}(hm:fu n a1=some r):Fn Tryz.prog 41 [(.str a1)] (.bool r):=by
 unfold fu at hm
 refine aaT Tryz.func41 fun g0 w0 bR=>?_
 exact wk
theorem vr{n:Nat}{a1:(List Int)}{r:Bool}(hm:jx n a1=some r):Fn Tryz.prog 43 [(.sl (a1.map D.i))] (.bool r):=by
 unfold jx at hm
 refine aaT Tryz.func43 fun g0 w0 bR=>?_
 refine rs 0 [0] 0 ?_
 iterate 10 refine go ?_
 obtain⟨kA,av,en⟩:=aa hm
 refine lS 0 av (fun x=>[(0,.d (.sl (a1.map D.i))),(5,.d (.sl (a1.map D.i))),(6,.d (.int .i64 (a1.length:Int))),(7,.d (.int .i64 x))]) (fun x=>[]) (mt 0) ?_
 rintro n1 s2 av
 obtain⟨dj,hm,av⟩:=aZ av
 dsimp only[gi] at hm
 iterate 4 refine go ?_
 refine wc hm (fun bB hm=>?_) fun bB hm=>?_
 ·exact wk
 ·exact wk
instance:CF 43:=⟨Tryz.call43,@vr⟩
theorem lB{n:Nat}{H:List HE}{a1:(List (List UInt8))}{a2:Int}{p3:(List UInt8)→Option Bool}{r:Bool}{JF:FuncId}{JG:List V}(TM:∀ (a:Array Value) (w:World),(callFunc JF a).run Tryz.prog w=.ok (.enter JF a) w)(WO:∀ (y1:(List UInt8)) (b:Bool),p3 y1=some b→aJ Tryz.prog JF (.d (.str y1)::JG) H fun r' H'=>r'=.d (.bool b)∧H'=H)(hm:cL n a1 a2 p3=some r):aJ Tryz.prog 44 [.d (.sl (a1.map D.str)),.d (.int .i64 a2),.fn (.func JF) JG] H fun r' H'=>r'=.d (.bool r)∧H'=H:=by
 unfold cL at hm
 refine aaU Tryz.func44 fun g0 w0 bR=>?_
 iterate 10 refine go ?_
 obtain⟨kA,av,en⟩:=aa hm
 refine AW.vZ (σ:=Int) (τ:=(Bool⊕Unit)) [0,1,2,9,10] (fun x=>[(11,.d (.int .i64 x))]) av ⟨by first|exact .of rfl|exact .d rfl,trivial⟩ ?_
 rintro n1 s4 av
 obtain⟨dj,hm,av⟩:=aZ av
 dsimp only[iz] at hm
 iterate 4 refine go ?_
 refine wc hm (fun bB hm=>?_) fun bB hm=>?_
 ·iterate 5 refine go ?_
  obtain⟨v5,jL,hm⟩:=aa hm
  iterate 8 refine go ?_
  obtain⟨v6,oz,hm⟩:=aa hm
  refine AL.s rfl (bZ TM .r (.cons .r .nil) (WO _ _ oz)) ?_
  iterate 9 refine go ?_
  obtain⟨v7,mE,hm⟩:=aa hm
  iterate 6 refine go ?_
  refine wc hm (fun di hm=>?_) fun di hm=>?_
  ·exact wk
  ·iterate 5 refine go ?_
   obtain rfl:=si hm
   exact Exists.intro _ ⟨av,⟨by first|exact .of rfl|exact .d rfl,trivial⟩,⟨rfl,rfl,rfl,rfl,rfl,trivial⟩,rfl⟩
 ·exact wk
theorem xe{n:Nat}{a1:(List UInt8)}{r:Bool}(hm:gg n a1=some r):Fn Tryz.prog 45 [(.str a1)] (.bool r):=by
 unfold gg at hm
 refine aaT Tryz.func45 fun g0 w0 bR=>?_
 iterate 5 refine go ?_
 refine AL.s rfl (jo (.r rfl) Tryz.underlying9) ?_
 exact wk
theorem xf{n:Nat}{a1:(List UInt8)}{r:Bool}(hm:gh n a1=some r):Fn Tryz.prog 46 [(.str a1)] (.bool r):=by
 unfold gh at hm
 refine aaT Tryz.func46 fun g0 w0 bR=>?_
 iterate 5 refine go ?_
 refine AL.s rfl (jo (.r rfl) Tryz.underlying9) ?_
 exact wk
theorem vt{n:Nat}{a1:af}{r:Bool}(hm:dN n a1=some r):Fn Tryz.prog 17 [(af.e a1)] (.bool r):=by
 unfold dN at hm
 refine aaT Tryz.func17 fun g0 w0 bR=>?_
 refine rs 0 [0] 0 ?_
 refine go ?_
 refine AL.s rfl (cW (n:=0) .r rfl rfl rfl) ?_
 iterate 21 refine go ?_
 refine AL.sF rfl rfl rfl rfl (fun g=>jo (.we (nt g) rfl rfl) Tryz.underlying9) ?_
 iterate 5 refine go ?_
 obtain⟨v2,ui,hm⟩:=aa hm
 iterate 4 refine go ?_
 refine wc hm (fun bB hm=>?_) fun bB hm=>?_
 ·exact wk
 ·iterate 12 refine go ?_
  obtain⟨v3,iw,hm⟩:=aa hm
  refine AL.sT rfl rfl rfl rfl (fun g=>jh (.we g rfl rfl) (.r rfl) (fU g iw) Tryz.underlying9) ?_
  iterate 4 refine go ?_
  refine AL.Uy rfl rfl rfl rfl (fun gp g=>jo (.we (an gp (nt g)) rfl rfl) Tryz.underlying9) ?_
  refine go ?_
  obtain⟨v4,ir,hm⟩:=aa hm
  refine AL.Uy rfl rfl rfl rfl (fun gp g=>jh (.we (an gp (nt g)) rfl rfl) (.we (an gp (nt g)) rfl rfl) (fU (an gp (nt g)) ir) Tryz.underlying9) ?_
  iterate 4 refine go ?_
  refine wc hm (fun di hm=>?_) fun di hm=>?_
  ·refine rs 0 [] 1 ?_
   exact wk
  ·iterate 5 refine go ?_
   obtain⟨v5,jL,hm⟩:=aa hm
   refine AL.s rfl (bZ Tryz.call40 .r (.cons .r (.cons .r .nil)) (fi Tryz.call41 (fun _ _ hb=>(s_ hb).at _) jL)) ?_
   refine go ?_
   refine wc hm (fun mq hm=>?_) fun mq hm=>?_
   ·exact wk
   ·iterate 4 refine go ?_
    obtain⟨v6,oz,hm⟩:=aa hm
    iterate 4 refine go ?_
    obtain⟨v7,mE,hm⟩:=aa hm
    refine AL.sT rfl rfl rfl rfl (fun g=>bZ Tryz.call44 .r (.cons (.we g rfl) (.cons .r (.cons .r .nil))) (lB Tryz.call45 (fun _ _ hb=>(xe hb).at _) (fU g mE))) ?_
    iterate 4 refine go ?_
    obtain⟨v8,oA,hm⟩:=aa hm
    refine AL.sT rfl rfl rfl rfl (fun g=>bZ Tryz.call44 .r (.cons (.we g rfl) (.cons .r (.cons .r .nil))) (lB Tryz.call46 (fun _ _ hb=>(xf hb).at _) (fU g oA))) ?_
    iterate 4 refine go ?_
    obtain⟨v9,pR,hm⟩:=aa hm
    refine AL.sT rfl rfl rfl rfl (fun g=>bZ Tryz.call44 .r (.cons (.we g rfl) (.cons .r (.cons .r .nil))) (lB Tryz.call42 (fun _ _ hb=>(nk hb).at _) (fU g pR))) ?_
    iterate 4 refine go ?_
    obtain⟨v10,lC,hm⟩:=aa hm
    refine AL.sT rfl rfl rfl rfl (fun g=>bZ Tryz.call44 .r (.cons (.we g rfl) (.cons .r (.cons .r .nil))) (lB Tryz.call42 (fun _ _ hb=>(nk hb).at _) (fU g lC))) ?_
    exact wk
instance:CF 17:=⟨Tryz.call17,@vt⟩
end Go.Proofs.YtjdnbobilgamdaaGreatDoor.Ab
