/- The functions in plain Lean. Conditions: none. -/
import Derived.Test.YtjdnbobilgamdaaGreatDoorJm
set_option maxRecDepth 100000
namespace Go.Proofs.YtjdnbobilgamdaaGreatDoor.Ab
open Go
attribute [local irreducible] AL AD AW tE zT lT
noncomputable section
structure af where
 nU:Int
 bf:(List (List UInt8))
 aM:(List UInt8)
 ba:(List Int)
 bN:(List (List UInt8))
 bO:(List (List UInt8))
 aw:(List (List UInt8))
 bh:(List (List UInt8))
 deriving Inhabited,DecidableEq
def af.e(x:af):D:=.agg [(.int .i64 x.nU),(.sl (x.bf.map D.str)),(.str x.aM),(.sl (x.ba.map D.i)),(.sl (x.bN.map D.str)),(.sl (x.bO.map D.str)),(.sl (x.aw.map D.str)),(.sl (x.bh.map D.str))]
theorem oE:En af.e 8:=⟨fun _=>rfl,fun x y hy=>by
 have GC:y∈[((.int .i64 x.nU):D),((.sl (x.bf.map D.str)):D),((.str x.aM):D),((.sl (x.ba.map D.i)):D),((.sl (x.bN.map D.str)):D),((.sl (x.bO.map D.str)):D),((.sl (x.aw.map D.str)):D),((.sl (x.bh.map D.str)):D)]:=hy
 simp only[abq,ac2,or_false] at GC
 rcases GC with rfl|rfl|rfl|rfl|rfl|rfl|rfl|rfl<;>rfl⟩
structure ae where
 ee:Int
 fA:Int
 fB:Int
 deriving Inhabited,DecidableEq
def ae.e(x:ae):D:=.agg [(.int .i64 x.ee),(.int .i64 x.fA),(.int .i64 x.fB)]
theorem nW:En ae.e 3:=⟨fun _=>rfl,fun x y hy=>by
 have GC:y∈[((.int .i64 x.ee):D),((.int .i64 x.fA):D),((.int .i64 x.fB):D)]:=hy
 simp only[abq,ac2,or_false] at GC
 rcases GC with rfl|rfl|rfl<;>rfl⟩
structure A7 where
 e0:Int
 e1:Int
 e2:Int
 e3:Int
 e4:Int
 e5:Int
 e6:Int
 deriving Inhabited,DecidableEq
def A7.e(x:A7):D:=.agg [(.int .i64 x.e0),(.int .i64 x.e1),(.int .i64 x.e2),(.int .i64 x.e3),(.int .i64 x.e4),(.int .i64 x.e5),(.int .i64 x.e6)]
def A7.l(x:A7):List Int:=[x.e0,x.e1,x.e2,x.e3,x.e4,x.e5,x.e6]
def A7.put(x:A7)(k:Int)(v:Int):Option A7:=
 if k=0 then some {x with e0:=v } else if k=1 then some {x with e1:=v } else if k=2 then some {x with e2:=v } else if k=3 then some {x with e3:=v } else if k=4 then some {x with e4:=v } else if k=5 then some {x with e5:=v } else if k=6 then some {x with e6:=v } else none
theorem A7.Dn(x y:A7)(h:x.l=y.l):x=y:=by
 obtain⟨x0,x1,x2,x3,x4,x5,x6⟩:=x;obtain⟨y0,y1,y2,y3,y4,y5,y6⟩:=y
 simpa[A7.l] using h
theorem A7.zf{x y:A7}{k:Int}{v:Int}(h:A7.put x k v=some y):ku x.l k v=some y.l:=by
 unfold A7.put at h
 by_cases h0:k=0
 ·subst h0;simp at h;subst h;rfl
 rw[aa7 h0] at h
 by_cases h1:k=1
 ·subst h1;simp at h;subst h;rfl
 rw[aa7 h1] at h
 by_cases h2:k=2
 ·subst h2;simp at h;subst h;rfl
 rw[aa7 h2] at h
 by_cases h3:k=3
 ·subst h3;simp at h;subst h;rfl
 rw[aa7 h3] at h
 by_cases h4:k=4
 ·subst h4;simp at h;subst h;rfl
 rw[aa7 h4] at h
 by_cases h5:k=5
 ·subst h5;simp at h;subst h;rfl
 rw[aa7 h5] at h
 by_cases h6:k=6
 ·subst h6;simp at h;subst h;rfl
 rw[aa7 h6] at h
 cases h
structure aB where
 fA:Int
 fB:Int
 mD:Bool
 bD:A7
 fO:Int
 deriving Inhabited,DecidableEq
def aB.e(x:aB):D:=.agg [(.int .i64 x.fA),(.int .i64 x.fB),(.bool x.mD),(.int .i64 x.bD.e0),(.int .i64 x.bD.e1),(.int .i64 x.bD.e2),(.int .i64 x.bD.e3),(.int .i64 x.bD.e4),(.int .i64 x.bD.e5),(.int .i64 x.bD.e6),(.int .i64 x.fO)]
theorem lG:En aB.e 11:=⟨fun _=>rfl,fun x y hy=>by
 have GC:y∈[((.int .i64 x.fA):D),((.int .i64 x.fB):D),((.bool x.mD):D),((.int .i64 x.bD.e0):D),((.int .i64 x.bD.e1):D),((.int .i64 x.bD.e2):D),((.int .i64 x.bD.e3):D),((.int .i64 x.bD.e4):D),((.int .i64 x.bD.e5):D),((.int .i64 x.bD.e6):D),((.int .i64 x.fO):D)]:=hy
 simp only[abq,ac2,or_false] at GC
 rcases GC with rfl|rfl|rfl|rfl|rfl|rfl|rfl|rfl|rfl|rfl|rfl<;>rfl⟩
structure ah where
 aS:Int
 aU:Int
 deriving Inhabited,DecidableEq
def ah.e(x:ah):D:=.agg [(.int .i64 x.aS),(.int .i64 x.aU)]
theorem gv:En ah.e 2:=⟨fun _=>rfl,fun x y hy=>by
 have GC:y∈[((.int .i64 x.aS):D),((.int .i64 x.aU):D)]:=hy
 simp only[abq,ac2,or_false] at GC
 rcases GC with rfl|rfl<;>rfl⟩
structure A3 where
 e0:ah
 e1:ah
 e2:ah
 deriving Inhabited,DecidableEq
def A3.e(x:A3):D:=.agg [(.int .i64 x.e0.aS),(.int .i64 x.e0.aU),(.int .i64 x.e1.aS),(.int .i64 x.e1.aU),(.int .i64 x.e2.aS),(.int .i64 x.e2.aU)]
def A3.l(x:A3):List ah:=[x.e0,x.e1,x.e2]
def A3.put(x:A3)(k:Int)(v:ah):Option A3:=
 if k=0 then some {x with e0:=v } else if k=1 then some {x with e1:=v } else if k=2 then some {x with e2:=v } else none
theorem A3.Dn(x y:A3)(h:x.l=y.l):x=y:=by
 obtain⟨x0,x1,x2⟩:=x;obtain⟨y0,y1,y2⟩:=y
 simpa[A3.l] using h
theorem A3.zf{x y:A3}{k:Int}{v:ah}(h:A3.put x k v=some y):ku x.l k v=some y.l:=by
 unfold A3.put at h
 by_cases h0:k=0
 ·subst h0;simp at h;subst h;rfl
 rw[aa7 h0] at h
 by_cases h1:k=1
 ·subst h1;simp at h;subst h;rfl
 rw[aa7 h1] at h
 by_cases h2:k=2
 ·subst h2;simp at h;subst h;rfl
 rw[aa7 h2] at h
 cases h
theorem BT:En A3.e 6:=⟨fun _=>rfl,fun x y hy=>by
 have GC:y∈[((.int .i64 x.e0.aS):D),((.int .i64 x.e0.aU):D),((.int .i64 x.e1.aS):D),((.int .i64 x.e1.aU):D),((.int .i64 x.e2.aS):D),((.int .i64 x.e2.aU):D)]:=hy
 simp only[abq,ac2,or_false] at GC
 rcases GC with rfl|rfl|rfl|rfl|rfl|rfl<;>rfl⟩
structure ej where
 e0:A3
 e1:A3
 e2:A3
 e3:A3
 e4:A3
 e5:A3
 e6:A3
 deriving Inhabited,DecidableEq
def ej.e(x:ej):D:=.agg [(.int .i64 x.e0.e0.aS),(.int .i64 x.e0.e0.aU),(.int .i64 x.e0.e1.aS),(.int .i64 x.e0.e1.aU),(.int .i64 x.e0.e2.aS),(.int .i64 x.e0.e2.aU),(.int .i64 x.e1.e0.aS),(.int .i64 x.e1.e0.aU),(.int .i64 x.e1.e1.aS),(.int .i64 x.e1.e1.aU),(.int .i64 x.e1.e2.aS),(.int .i64 x.e1.e2.aU),(.int .i64 x.e2.e0.aS),(.int .i64 x.e2.e0.aU),(.int .i64 x.e2.e1.aS),(.int .i64 x.e2.e1.aU),(.int .i64 x.e2.e2.aS),(.int .i64 x.e2.e2.aU),(.int .i64 x.e3.e0.aS),(.int .i64 x.e3.e0.aU),(.int .i64 x.e3.e1.aS),(.int .i64 x.e3.e1.aU),(.int .i64 x.e3.e2.aS),(.int .i64 x.e3.e2.aU),(.int .i64 x.e4.e0.aS),(.int .i64 x.e4.e0.aU),(.int .i64 x.e4.e1.aS),(.int .i64 x.e4.e1.aU),(.int .i64 x.e4.e2.aS),(.int .i64 x.e4.e2.aU),(.int .i64 x.e5.e0.aS),(.int .i64 x.e5.e0.aU),(.int .i64 x.e5.e1.aS),(.int .i64 x.e5.e1.aU),(.int .i64 x.e5.e2.aS),(.int .i64 x.e5.e2.aU),(.int .i64 x.e6.e0.aS),(.int .i64 x.e6.e0.aU),(.int .i64 x.e6.e1.aS),(.int .i64 x.e6.e1.aU),(.int .i64 x.e6.e2.aS),(.int .i64 x.e6.e2.aU)]
def ej.l(x:ej):List A3:=[x.e0,x.e1,x.e2,x.e3,x.e4,x.e5,x.e6]
def ej.put(x:ej)(k:Int)(v:A3):Option ej:=
 if k=0 then some {x with e0:=v } else if k=1 then some {x with e1:=v } else if k=2 then some {x with e2:=v } else if k=3 then some {x with e3:=v } else if k=4 then some {x with e4:=v } else if k=5 then some {x with e5:=v } else if k=6 then some {x with e6:=v } else none
theorem ej.Dn(x y:ej)(h:x.l=y.l):x=y:=by
 obtain⟨x0,x1,x2,x3,x4,x5,x6⟩:=x;obtain⟨y0,y1,y2,y3,y4,y5,y6⟩:=y
 simpa[ej.l] using h
theorem ej.zf{x y:ej}{k:Int}{v:A3}(h:ej.put x k v=some y):ku x.l k v=some y.l:=by
 unfold ej.put at h
 by_cases h0:k=0
 ·subst h0;simp at h;subst h;rfl
 rw[aa7 h0] at h
 by_cases h1:k=1
 ·subst h1;simp at h;subst h;rfl
 rw[aa7 h1] at h
 by_cases h2:k=2
 ·subst h2;simp at h;subst h;rfl
 rw[aa7 h2] at h
 by_cases h3:k=3
 ·subst h3;simp at h;subst h;rfl
 rw[aa7 h3] at h
 by_cases h4:k=4
 ·subst h4;simp at h;subst h;rfl
 rw[aa7 h4] at h
 by_cases h5:k=5
 ·subst h5;simp at h;subst h;rfl
 rw[aa7 h5] at h
 by_cases h6:k=6
 ·subst h6;simp at h;subst h;rfl
 rw[aa7 h6] at h
 cases h
structure A6 where
 e0:Int
 e1:Int
 e2:Int
 e3:Int
 e4:Int
 e5:Int
 deriving Inhabited,DecidableEq
def A6.e(x:A6):D:=.agg [(.int .i64 x.e0),(.int .i64 x.e1),(.int .i64 x.e2),(.int .i64 x.e3),(.int .i64 x.e4),(.int .i64 x.e5)]
def A6.l(x:A6):List Int:=[x.e0,x.e1,x.e2,x.e3,x.e4,x.e5]
def A6.put(x:A6)(k:Int)(v:Int):Option A6:=
 if k=0 then some {x with e0:=v } else if k=1 then some {x with e1:=v } else if k=2 then some {x with e2:=v } else if k=3 then some {x with e3:=v } else if k=4 then some {x with e4:=v } else if k=5 then some {x with e5:=v } else none
theorem A6.Dn(x y:A6)(h:x.l=y.l):x=y:=by
 obtain⟨x0,x1,x2,x3,x4,x5⟩:=x;obtain⟨y0,y1,y2,y3,y4,y5⟩:=y
 simpa[A6.l] using h
theorem A6.zf{x y:A6}{k:Int}{v:Int}(h:A6.put x k v=some y):ku x.l k v=some y.l:=by
 unfold A6.put at h
 by_cases h0:k=0
 ·subst h0;simp at h;subst h;rfl
 rw[aa7 h0] at h
 by_cases h1:k=1
 ·subst h1;simp at h;subst h;rfl
 rw[aa7 h1] at h
 by_cases h2:k=2
 ·subst h2;simp at h;subst h;rfl
 rw[aa7 h2] at h
 by_cases h3:k=3
 ·subst h3;simp at h;subst h;rfl
 rw[aa7 h3] at h
 by_cases h4:k=4
 ·subst h4;simp at h;subst h;rfl
 rw[aa7 h4] at h
 by_cases h5:k=5
 ·subst h5;simp at h;subst h;rfl
 rw[aa7 h5] at h
 cases h
theorem QS:En A6.e 6:=⟨fun _=>rfl,fun x y hy=>by
 have GC:y∈[((.int .i64 x.e0):D),((.int .i64 x.e1):D),((.int .i64 x.e2):D),((.int .i64 x.e3):D),((.int .i64 x.e4):D),((.int .i64 x.e5):D)]:=hy
 simp only[abq,ac2,or_false] at GC
 rcases GC with rfl|rfl|rfl|rfl|rfl|rfl<;>rfl⟩
structure tf where
 e0:A6
 e1:A6
 e2:A6
 e3:A6
 e4:A6
 e5:A6
 e6:A6
 deriving Inhabited,DecidableEq
def tf.e(x:tf):D:=.agg [(.int .i64 x.e0.e0),(.int .i64 x.e0.e1),(.int .i64 x.e0.e2),(.int .i64 x.e0.e3),(.int .i64 x.e0.e4),(.int .i64 x.e0.e5),(.int .i64 x.e1.e0),(.int .i64 x.e1.e1),(.int .i64 x.e1.e2),(.int .i64 x.e1.e3),(.int .i64 x.e1.e4),(.int .i64 x.e1.e5),(.int .i64 x.e2.e0),(.int .i64 x.e2.e1),(.int .i64 x.e2.e2),(.int .i64 x.e2.e3),(.int .i64 x.e2.e4),(.int .i64 x.e2.e5),(.int .i64 x.e3.e0),(.int .i64 x.e3.e1),(.int .i64 x.e3.e2),(.int .i64 x.e3.e3),(.int .i64 x.e3.e4),(.int .i64 x.e3.e5),(.int .i64 x.e4.e0),(.int .i64 x.e4.e1),(.int .i64 x.e4.e2),(.int .i64 x.e4.e3),(.int .i64 x.e4.e4),(.int .i64 x.e4.e5),(.int .i64 x.e5.e0),(.int .i64 x.e5.e1),(.int .i64 x.e5.e2),(.int .i64 x.e5.e3),(.int .i64 x.e5.e4),(.int .i64 x.e5.e5),(.int .i64 x.e6.e0),(.int .i64 x.e6.e1),(.int .i64 x.e6.e2),(.int .i64 x.e6.e3),(.int .i64 x.e6.e4),(.int .i64 x.e6.e5)]
def tf.l(x:tf):List A6:=[x.e0,x.e1,x.e2,x.e3,x.e4,x.e5,x.e6]
def tf.put(x:tf)(k:Int)(v:A6):Option tf:=
 if k=0 then some {x with e0:=v } else if k=1 then some {x with e1:=v } else if k=2 then some {x with e2:=v } else if k=3 then some {x with e3:=v } else if k=4 then some {x with e4:=v } else if k=5 then some {x with e5:=v } else if k=6 then some {x with e6:=v } else none
theorem tf.Dn(x y:tf)(h:x.l=y.l):x=y:=by
 obtain⟨x0,x1,x2,x3,x4,x5,x6⟩:=x;obtain⟨y0,y1,y2,y3,y4,y5,y6⟩:=y
 simpa[tf.l] using h
theorem tf.zf{x y:tf}{k:Int}{v:A6}(h:tf.put x k v=some y):ku x.l k v=some y.l:=by
 unfold tf.put at h
 by_cases h0:k=0
 ·subst h0;simp at h;subst h;rfl
 rw[aa7 h0] at h
 by_cases h1:k=1
 ·subst h1;simp at h;subst h;rfl
 rw[aa7 h1] at h
 by_cases h2:k=2
 ·subst h2;simp at h;subst h;rfl
 rw[aa7 h2] at h
 by_cases h3:k=3
 ·subst h3;simp at h;subst h;rfl
 rw[aa7 h3] at h
 by_cases h4:k=4
 ·subst h4;simp at h;subst h;rfl
 rw[aa7 h4] at h
 by_cases h5:k=5
 ·subst h5;simp at h;subst h;rfl
 rw[aa7 h5] at h
 by_cases h6:k=6
 ·subst h6;simp at h;subst h;rfl
 rw[aa7 h6] at h
 cases h
structure mV where
 fA:Int
 fB:Int
 b_:(List aB)
 deriving Inhabited,DecidableEq
def mV.e(x:mV):D:=.agg [(.int .i64 x.fA),(.int .i64 x.fB),(.sl (x.b_.map aB.e))]
def bP(_:Nat)(a1:(List ae))(p2:ae→Option Bool)(s3:Int):Option (Int⊕(Int⊕Unit)):=
 if (decide (s3<(a1.length:Int)))=true then
  (ix a1 s3).bind fun v4=>
  (p2 v4).bind fun v5=>
  if v5=true then
   some (.inr (.inl s3))
  else
  some (.inl (IntKind.i64.wrap (s3+(1:Int))))
 else
 some (.inr (.inr ()))
def bX(n:Nat)(a1:(List ae))(p2:ae→Option Bool):Option Int:=
 (iter n (fun s=>bP n a1 p2 s) (0:Int)).bind fun t3=>match t3 with
 |(.inl u4)=>
  some u4
 |(.inr _)=>
  some (-1:Int)
def bq(n:Nat)(a1:(List ae))(p2:ae→Option Bool):Option Bool:=
 (bX n a1 p2).bind fun v3=>
 some (decide ((0:Int)≤v3))
def jM(_:Nat)(a1:Int):Option Bool:=
 some ((decide ((1:Int)≤a1))&&(decide (a1≤(1000000000:Int))))
def dY(n:Nat)(a1:ae):Option Bool:=
 ((if (!((!decide (a1.ee=(1:Int)))&&(!decide (a1.ee=(2:Int)))))=true then jM n a1.fA else some default)).bind fun v2=>
 ((if (!(((!decide (a1.ee=(1:Int)))&&(!decide (a1.ee=(2:Int))))||(!v2)))=true then jM n a1.fB else some default)).bind fun v3=>
 some (((((!decide (a1.ee=(1:Int)))&&(!decide (a1.ee=(2:Int))))||(!v2))||(!v3))||(decide (a1.fA=a1.fB)))
def eR(n:Nat)(a1:(List ae)):Option Bool:=
 ((if (decide ((a1.length:Int)≤(400:Int)))=true then bq n a1 (fun y1=>dY n y1) else some default)).bind fun v2=>
 some ((decide ((a1.length:Int)≤(400:Int)))&&(!v2))
def az(_:Nat)(a1:(List af))(p2:af→Option Bool)(s3:Int):Option (Int⊕(Int⊕Unit)):=
 if (decide (s3<(a1.length:Int)))=true then
  (ix a1 s3).bind fun v4=>
  (p2 v4).bind fun v5=>
  if v5=true then
   some (.inr (.inl s3))
  else
  some (.inl (IntKind.i64.wrap (s3+(1:Int))))
 else
 some (.inr (.inr ()))
def aP(n:Nat)(a1:(List af))(p2:af→Option Bool):Option Int:=
 (iter n (fun s=>az n a1 p2 s) (0:Int)).bind fun t3=>match t3 with
 |(.inl u4)=>
  some u4
 |(.inr _)=>
  some (-1:Int)
def bc(n:Nat)(a1:(List af))(p2:af→Option Bool):Option Bool:=
 (aP n a1 p2).bind fun v3=>
 some (decide ((0:Int)≤v3))
def eF(_:Nat)(a1:(List Int))(p2:Int→Option Bool)(s3:Int):Option (Int⊕(Int⊕Unit)):=
 if (decide (s3<(a1.length:Int)))=true then
  (ix a1 s3).bind fun v4=>
  (p2 v4).bind fun v5=>
  if v5=true then
   some (.inr (.inl s3))
  else
  some (.inl (IntKind.i64.wrap (s3+(1:Int))))
 else
 some (.inr (.inr ()))
def fH(n:Nat)(a1:(List Int))(p2:Int→Option Bool):Option Int:=
 (iter n (fun s=>eF n a1 p2 s) (0:Int)).bind fun t3=>match t3 with
 |(.inl u4)=>
  some u4
 |(.inr _)=>
  some (-1:Int)
def dm(n:Nat)(a1:(List Int))(p2:Int→Option Bool):Option Bool:=
 (fH n a1 p2).bind fun v3=>
 some (decide ((0:Int)≤v3))
def iy(_:Nat)(a1:Int)(c2:Int)(c3:Int):Option Bool:=
 some ((decide (a1<c2))||(decide (c3<a1)))
def fg(n:Nat)(a1:(List UInt8))(a2:Int)(a3:Int):Option Bool:=
 (dm n (vX a1) (fun y1=>iy n y1 a2 a3)).bind fun v4=>
 some (!v4)
def dM(_:Nat)(a1:(List (List UInt8)))(p2:(List UInt8)→Option Bool)(s3:Int):Option (Int⊕(Int⊕Unit)):=
 if (decide (s3<(a1.length:Int)))=true then
  (ix a1 s3).bind fun v4=>
  (p2 v4).bind fun v5=>
  if v5=true then
   some (.inr (.inl s3))
  else
  some (.inl (IntKind.i64.wrap (s3+(1:Int))))
 else
 some (.inr (.inr ()))
def ep(n:Nat)(a1:(List (List UInt8)))(p2:(List UInt8)→Option Bool):Option Int:=
 (iter n (fun s=>dM n a1 p2 s) (0:Int)).bind fun t3=>match t3 with
 |(.inl u4)=>
  some u4
 |(.inr _)=>
  some (-1:Int)
def bx(n:Nat)(a1:(List (List UInt8)))(p2:(List UInt8)→Option Bool):Option Bool:=
 (ep n a1 p2).bind fun v3=>
 some (decide ((0:Int)≤v3))
def dr(n:Nat)(a1:(List UInt8)):Option Bool:=
 ((if ((!decide (a1=([]:List UInt8)))&&(decide ((a1.length:Int)≤(400:Int))))=true then fg n a1 (33:Int) (255:Int) else some default)).bind fun v2=>
 some (((!decide (a1=([]:List UInt8)))&&(decide ((a1.length:Int)≤(400:Int))))&&v2)
def fu(n:Nat)(a1:(List UInt8)):Option Bool:=
 (dr n a1).bind fun v2=>
 some (!v2)
def gi(_:Nat)(a1:(List Int))(s2:Int):Option (Int⊕(Bool⊕Unit)):=
 if (decide (s2<(a1.length:Int)))=true then
  (ix a1 s2).bind fun v3=>
  ((if ((!((decide (v3<(1000:Int)))||(decide ((2999:Int)<v3))))&&(decide ((0:Int)<s2)))=true then ix a1 (IntKind.i64.wrap (s2-(1:Int))) else some default)).bind fun v4=>
  if (((decide (v3<(1000:Int)))||(decide ((2999:Int)<v3)))||((decide ((0:Int)<s2))&&(decide (v3≤v4))))=true then
   some (.inr (.inl false))
  else
  some (.inl (IntKind.i64.wrap (s2+(1:Int))))
 else
 some (.inr (.inr ()))
def jx(n:Nat)(a1:(List Int)):Option Bool:=
 (iter n (fun s=>gi n a1 s) (0:Int)).bind fun t2=>match t2 with
 |(.inl u3)=>
  some u3
 |(.inr _)=>
  some (decide ((a1.length:Int)≤(20:Int)))
def iz(_:Nat)(a1:(List (List UInt8)))(p3:(List UInt8)→Option Bool)(s4:Int):Option (Int⊕(Bool⊕Unit)):=
 if (decide (s4<(a1.length:Int)))=true then
  (ix a1 s4).bind fun v5=>
  (p3 v5).bind fun v6=>
  ((if ((!(!v6))&&(decide ((0:Int)<s4)))=true then ix a1 (IntKind.i64.wrap (s4-(1:Int))) else some default)).bind fun v7=>
  if ((!v6)||((decide ((0:Int)<s4))&&((Lw v5 v7||decide (v5=v7)))))=true then
   some (.inr (.inl false))
  else
  some (.inl (IntKind.i64.wrap (s4+(1:Int))))
 else
 some (.inr (.inr ()))
def cL(n:Nat)(a1:(List (List UInt8)))(a2:Int)(p3:(List UInt8)→Option Bool):Option Bool:=
 (iter n (fun s=>iz n a1 p3 s) (0:Int)).bind fun t4=>match t4 with
 |(.inl u5)=>
  some u5
 |(.inr _)=>
  some (decide ((a1.length:Int)≤a2))
def gg(n:Nat)(a1:(List UInt8)):Option Bool:=
 ((if (decide ((a1.length:Int)=(13:Int)))=true then fg n a1 (48:Int) (57:Int) else some default)).bind fun v2=>
 some ((decide ((a1.length:Int)=(13:Int)))&&v2)
def gh(n:Nat)(a1:(List UInt8)):Option Bool:=
 ((if (decide ((a1.length:Int)=(3:Int)))=true then fg n a1 (97:Int) (122:Int) else some default)).bind fun v2=>
 some ((decide ((a1.length:Int)=(3:Int)))&&v2)
def dN(n:Nat)(a1:af):Option Bool:=
 ((if (!((((decide (a1.nU<(1:Int)))||(decide ((1000000000:Int)<a1.nU)))||(decide ((200:Int)<(a1.bf.length:Int))))||(decide ((420:Int)<(a1.aM.length:Int)))))=true then fg n a1.aM (32:Int) (255:Int) else some default)).bind fun v2=>
 if (((((decide (a1.nU<(1:Int)))||(decide ((1000000000:Int)<a1.nU)))||(decide ((200:Int)<(a1.bf.length:Int))))||(decide ((420:Int)<(a1.aM.length:Int))))||(!v2))=true then
  some false
 else
 ((if (!decide (a1.aM=([]:List UInt8)))=true then EY a1.aM (0:Int) else some default)).bind fun v3=>
 ((if ((!decide (a1.aM=([]:List UInt8)))&&(!(decide (v3=(32:Int)))))=true then EY a1.aM (IntKind.i64.wrap ((a1.aM.length:Int)-(1:Int))) else some default)).bind fun v4=>
 if ((!decide (a1.aM=([]:List UInt8)))&&((decide (v3=(32:Int)))||(decide (v4=(32:Int)))))=true then
  some false
 else
 (bx n a1.bf (fun y1=>fu n y1)).bind fun v5=>
 if v5=true then
  some false
 else
 (jx n a1.ba).bind fun v6=>
 ((if v6=true then cL n a1.bN (20:Int) (fun y1=>gg n y1) else some default)).bind fun v7=>
 ((if (v6&&v7)=true then cL n a1.bO (20:Int) (fun y1=>gh n y1) else some default)).bind fun v8=>
 ((if ((v6&&v7)&&v8)=true then cL n a1.aw (200:Int) (fun y1=>dr n y1) else some default)).bind fun v9=>
 ((if (((v6&&v7)&&v8)&&v9)=true then cL n a1.bh (200:Int) (fun y1=>dr n y1) else some default)).bind fun v10=>
 some ((((v6&&v7)&&v8)&&v9)&&v10)
def eU(n:Nat)(a1:af):Option Bool:=
 (dN n a1).bind fun v2=>
 some (!v2)
def cj(_:Nat)(c1:(List (Int×Int)))(s3:Int):Option (Int⊕Int):=
 if ((!(ft c1 s3).isSome)||(decide (((ft c1 s3).getD ((0:Int):Int))=s3)))=true then
  some (.inr s3)
 else
 some (.inl ((ft c1 s3).getD ((0:Int):Int)))
def bT(n:Nat)(c1:(List (Int×Int)))(a2:Int):Option Int:=
 (iter n (fun s=>cj n c1 s) a2).bind fun t3=>
 some t3
def cD(n:Nat)(a1:(List ae))(s2:Int)(s3:(List (Int×Int))):Option ((Int×(List (Int×Int)))⊕(List (Int×Int))):=
 if (decide (s2<(a1.length:Int)))=true then
  (
   (ix a1 s2).bind fun v4=>
   if (decide (v4.ee=(1:Int)))=true then
    (bT n s3 v4.fA).bind fun v5=>
    (bT n s3 v4.fB).bind fun v6=>
    (some (jl s3 (max v5 v6) (min v5 v6))).bind fun v7=>
    some v7
   else
   some s3:Option (List (Int×Int))).bind fun t8=>
  some (.inl ((IntKind.i64.wrap (s2+(1:Int))),t8))
 else
 some (.inr s3)
def eu(n:Nat)(a1:(List ae)):Option (List (Int×Int)):=
 (iter n (fun s=>cD n a1 s.1 s.2) ((0:Int),[])).bind fun t2=>
 some t2
def cZ(_n:Nat)(c1:List Int):Option (List Int):=if c1.length<4611686018427387904 then some (rV n_ c1) else none
def fP(_:Nat)(s2:Int)(v7:(List Int))(s8:Int)(s9:Int)(kp:(List Int)):Option ((Int×Int×(List Int))⊕(Int×(List Int))):=
 if (decide (s9<(v7.length:Int)))=true then
  (
   (ix v7 s9).bind fun _=>
   (ix kp (s2+s9)).bind fun v12=>
   (ix v7 (IntKind.i64.wrap (s9-(1:Int)))).bind fun _=>
   (ix kp (s2+(IntKind.i64.wrap (s9-(1:Int))))).bind fun uH=>
   if (!decide (v12=uH))=true then
    (ix v7 s9).bind fun _=>
    (ix kp (s2+s9)).bind fun xB=>
    (ix kp s8).bind fun _=>
    (ku kp s8 xB).bind fun ES=>
    some ((IntKind.i64.wrap (s8+(1:Int))),ES)
   else
   some (s8,kp):Option (Int×(List Int))).bind fun t19=>
  some (.inl (t19.1,(IntKind.i64.wrap (s9+(1:Int))),t19.2))
 else
 some (.inr (s8,kp))
def c_(n:Nat)(c1:(List Int))(s2:Int):Option (Int⊕((List Int)⊕Unit)):=
 if (decide (s2<(c1.length:Int)))=true then
  (ix c1 s2).bind fun _=>
  (ix c1 s2).bind fun v4=>
  (ix c1 (IntKind.i64.wrap (s2-(1:Int)))).bind fun _=>
  (ix c1 (IntKind.i64.wrap (s2-(1:Int)))).bind fun v6=>
  if (decide (v4=v6))=true then
   (oR c1 s2 (c1.length:Int)).bind fun v7=>
   (iter n (fun s=>fP n s2 v7 s.1 s.2.1 s.2.2) (s2,(1:Int),c1)).bind fun t8=>
   (oR t8.2 t8.1 (t8.2.length:Int)).bind fun v9=>
   (oR (ql t8.2 t8.1.toNat v9.length ((0:Int):Int)) (0:Int) t8.1).bind fun v10=>
   some (.inr (.inl v10))
  else
  some (.inl (IntKind.i64.wrap (s2+(1:Int))))
 else
 some (.inr (.inr ()))
def cN(n:Nat)(c1:(List Int)):Option (List Int):=
 if (decide ((c1.length:Int)<(2:Int)))=true then
  some c1
 else
 (iter n (fun s=>c_ n c1 s) (1:Int)).bind fun t2=>match t2 with
 |(.inl u3)=>
  some u3
 |(.inr _)=>
  some c1
def cn(_:Nat)(a1:(List ae))(s2:Int)(s3:(List Int)):Option ((Int×(List Int))⊕(List Int)):=
 if (decide (s2<(a1.length:Int)))=true then
  (
   (ix a1 s2).bind fun v4=>
   if (decide (v4.ee=(1:Int)))=true then
    (app 8 s3 ([v4.fA,v4.fB]:List Int)).bind fun v5=>
    some v5
   else
   some s3:Option (List Int)).bind fun t6=>
  some (.inl ((IntKind.i64.wrap (s2+(1:Int))),t6))
 else
 some (.inr s3)
def fj(n:Nat)(a1:(List ae)):Option (List Int):=
 (iter n (fun s=>cn n a1 s.1 s.2) ((0:Int),([]:List Int))).bind fun t2=>
 (cZ n t2).bind fun v3=>
 (cN n v3).bind fun v4=>
 some v4
def cC(n:Nat)(a1:Int)(c2:(List (Int×Int)))(c3:Int):Option Bool:=
 (bT n c2 a1).bind fun v4=>
 (bT n c2 c3).bind fun v5=>
 some (!decide (v4=v5))
def bU(n:Nat)(c1:(List Int))(c2:(List (Int×Int)))(c3:Int)(s4:Int):Option (Int⊕(Int⊕Unit)):=
 if (decide (s4<(c1.length:Int)))=true then
  (ix c1 s4).bind fun _=>
  (ix c1 s4).bind fun v6=>
  (cC n v6 c2 c3).bind fun v7=>
  if v7=true then
   some (.inr (.inl s4))
  else
  some (.inl (IntKind.i64.wrap (s4+(1:Int))))
 else
 some (.inr (.inr ()))
def cq(n:Nat)(c1:(List Int))(c2:(List (Int×Int)))(c3:Int):Option Int:=
 (iter n (fun s=>bU n c1 c2 c3 s) (0:Int)).bind fun t4=>match t4 with
 |(.inl u5)=>
  some u5
 |(.inr _)=>
  some (-1:Int)
def bQ(n:Nat)(c2:(List (Int×Int)))(c3:Int)(s5:Int)(s6:Int)(s7:(List Int)):Option ((Int×Int×(List Int))⊕(Int×(List Int))):=
 if (decide (s6<(s7.length:Int)))=true then
  (
   (ix s7 s6).bind fun _=>
   (ix s7 s6).bind fun v9=>
   (cC n v9 c2 c3).bind fun v10=>
   if (!v10)=true then
    (ix s7 s5).bind fun _=>
    (ku s7 s5 v9).bind fun v12=>
    some ((IntKind.i64.wrap (s5+(1:Int))),v12)
   else
   some (s5,s7):Option (Int×(List Int))).bind fun t13=>
  some (.inl (t13.1,(IntKind.i64.wrap (s6+(1:Int))),t13.2))
 else
 some (.inr (s5,s7))
def de(n:Nat)(c1:(List Int))(c2:(List (Int×Int)))(c3:Int):Option (List Int):=
 (cq n c1 c2 c3).bind fun v4=>
 if (decide (v4=(-1:Int)))=true then
  some c1
 else
 (iter n (fun s=>bQ n c2 c3 s.1 s.2.1 s.2.2) (v4,(IntKind.i64.wrap (v4+(1:Int))),c1)).bind fun t5=>
 (oR t5.2 t5.1 (t5.2.length:Int)).bind fun v6=>
 (oR (ql t5.2 t5.1.toNat v6.length ((0:Int):Int)) (0:Int) t5.1).bind fun v7=>
 some v7
def du(n:Nat)(a1:(List ae))(a2:Int):Option ((List Int)×Int):=
 (eR n a1).bind fun v3=>
 if (!v3)=true then
  some ([],(1:Int))
 else
 (eu n a1).bind fun v4=>
 (fj n a1).bind fun v5=>
 (de n v5 v4 a2).bind fun v6=>
 (
  if (decide ((v6.length:Int)=(0:Int)))=true then
   some ([a2]:List Int)
  else
  some v6:Option (List Int)).bind fun t7=>
 some (t7,(0:Int))
def iQ(n:Nat)(a1:(List ae))(a2:Int):Option (List Int):=
 (du n a1 a2).bind fun v3=>
 some v3.1
def gB(_:Nat)(a1:(List Int))(a2:Int)(s3:Int):Option (Int⊕(Int⊕Unit)):=
 if (decide (s3<(a1.length:Int)))=true then
  (ix a1 s3).bind fun v4=>
  if (decide (a2=v4))=true then
   some (.inr (.inl s3))
  else
  some (.inl (IntKind.i64.wrap (s3+(1:Int))))
 else
 some (.inr (.inr ()))
def jr(n:Nat)(a1:(List Int))(a2:Int):Option Int:=
 (iter n (fun s=>gB n a1 a2 s) (0:Int)).bind fun t3=>match t3 with
 |(.inl u4)=>
  some u4
 |(.inr _)=>
  some (-1:Int)
def bW(n:Nat)(a1:(List Int))(a2:Int):Option Bool:=
 (jr n a1 a2).bind fun v3=>
 some (decide ((0:Int)≤v3))
def gV(_:Nat)(a1:af)(c2:Int):Option Bool:=
 some (decide (a1.nU=c2))
def gH(n:Nat)(a1:(List af))(a2:Int):Option (af×Bool):=
 (aP n a1 (fun y1=>gV n y1 a2)).bind fun v3=>
 if (decide (v3<(0:Int)))=true then
  some ((⟨(0:Int),[],([]:List UInt8),[],[],[],[],[]⟩:af),false)
 else
 (ix a1 v3).bind fun v4=>
 some (v4,true)
def ca(_:Nat)(a1:(List (List UInt8)))(a2:(List (List UInt8)))(s3:Int):Option (Int⊕(Bool⊕Unit)):=
 if (decide (s3<(a1.length:Int)))=true then
  (ix a1 s3).bind fun v4=>
  (ix a2 s3).bind fun v5=>
  if (!decide (v4=v5))=true then
   some (.inr (.inl false))
  else
  some (.inl (IntKind.i64.wrap (s3+(1:Int))))
 else
 some (.inr (.inr ()))
def bH(n:Nat)(a1:(List (List UInt8)))(a2:(List (List UInt8))):Option Bool:=
 if (!decide ((a1.length:Int)=(a2.length:Int)))=true then
  some false
 else
 (iter n (fun s=>ca n a1 a2 s) (0:Int)).bind fun t3=>match t3 with
 |(.inl u4)=>
  some u4
 |(.inr _)=>
  some true
def eI(_:Nat)(a1:(List (List UInt8)))(s3:Int)(s4:(List ((List UInt8)×Int))):Option ((Int×(List ((List UInt8)×Int)))⊕(List ((List UInt8)×Int))):=
 if (decide (s3<(a1.length:Int)))=true then
  (ix a1 s3).bind fun v5=>
  (some (jl s4 v5 (zq .i64 (·||| ·) ((ft s4 v5).getD ((0:Int):Int)) (1:Int)))).bind fun v6=>
  some (.inl ((IntKind.i64.wrap (s3+(1:Int))),v6))
 else
 some (.inr s4)
def eJ(_:Nat)(a2:(List (List UInt8)))(s4:Int)(s5:(List ((List UInt8)×Int))):Option ((Int×(List ((List UInt8)×Int)))⊕(List ((List UInt8)×Int))):=
 if (decide (s4<(a2.length:Int)))=true then
  (ix a2 s4).bind fun v6=>
  (some (jl s5 v6 (zq .i64 (·||| ·) ((ft s5 v6).getD ((0:Int):Int)) (2:Int)))).bind fun v7=>
  some (.inl ((IntKind.i64.wrap (s4+(1:Int))),v7))
 else
 some (.inr s5)
def gz(_:Nat)(s5:Int)(XX:((List UInt8)×Int)):Option (Int⊕Int):=
 if (decide (XX.2=(3:Int)))=true then
  some (.inl (IntKind.i64.wrap (s5+(1:Int))))
 else
 some (.inl s5)
def dP(n:Nat)(a1:(List (List UInt8)))(a2:(List (List UInt8))):Option Bool:=
 (iter n (fun s=>eI n a1 s.1 s.2) ((0:Int),[])).bind fun t3=>
 (iter n (fun s=>eJ n a2 s.1 s.2) ((0:Int),t3)).bind fun t4=>
 (uU (fun s e=>gz n s e) (fun s=>(s:Int)) ((0:Int):Int) t4).bind fun t5=>
 some ((decide ((0:Int)<(t4.length:Int)))&&(decide ((IntKind.i64.wrap ((3:Int)*(t4.length:Int)))≤(IntKind.i64.wrap ((4:Int)*t5)))))
def fJ(_:Nat)(a1:(List UInt8))(s2:(List Int))(s3:Nat):Option (((List Int)×Nat)⊕((List Int)×Nat)):=
 (some (UG a1 s3)).bind fun v4=>
 if v4.1=true then
  (app 8 s2 ([(IntKind.i64.wrap v4.2.2.1)]:List Int)).bind fun v5=>
  some (.inl (v5,v4.2.2.2))
 else
 some (.inr (s2,v4.2.2.2))
def dU(n:Nat)(a1:(List UInt8)):Option (List Int):=
 (iter n (fun s=>fJ n a1 s.1 s.2) ([],0)).bind fun t2=>
 some t2.1
def eh(_:Nat)(v3:(List Int))(s4:Int)(s5:(List Int)):Option ((Int×(List Int))⊕(List Int)):=
 if (decide (s4<(v3.length:Int)))=true then
  (ix s5 s4).bind fun _=>
  (ku s5 s4 s4).bind fun v7=>
  some (.inl ((IntKind.i64.wrap (s4+(1:Int))),v7))
 else
 some (.inr s5)
def dB(_:Nat)(a2:(List Int))(v7:Int)(QT:Int)(Gy:Int)(K8:(List Int)):Option ((Int×Int×(List Int))⊕(List Int)):=
 if (decide (Gy<(a2.length:Int)))=true then
  (ix a2 Gy).bind fun uM=>
  (
   if (!decide (v7=uM))=true then
    (ix K8 Gy).bind fun _=>
    (ix K8 Gy).bind fun v17=>
    (ix K8 (IntKind.i64.wrap (Gy+(1:Int)))).bind fun _=>
    (ix K8 (IntKind.i64.wrap (Gy+(1:Int)))).bind fun zz=>
    some (IntKind.i64.wrap ((1:Int)+(min (min QT v17) zz)))
   else
   some QT:Option Int).bind fun t20=>
  (ix K8 (IntKind.i64.wrap (Gy+(1:Int)))).bind fun _=>
  (ix K8 (IntKind.i64.wrap (Gy+(1:Int)))).bind fun v22=>
  (ix K8 (IntKind.i64.wrap (Gy+(1:Int)))).bind fun _=>
  (ku K8 (IntKind.i64.wrap (Gy+(1:Int))) t20).bind fun v24=>
  some (.inl (v22,(IntKind.i64.wrap (Gy+(1:Int))),v24))
 else
 some (.inr K8)
def ei(n:Nat)(a1:(List Int))(a2:(List Int))(s5:Int)(s6:(List Int)):Option ((Int×(List Int))⊕(List Int)):=
 if (decide (s5<(a1.length:Int)))=true then
  (ix a1 s5).bind fun v7=>
  (ix s6 (0:Int)).bind fun _=>
  (ix s6 (0:Int)).bind fun v9=>
  (ix s6 (0:Int)).bind fun _=>
  (ku s6 (0:Int) (IntKind.i64.wrap (s5+(1:Int)))).bind fun v11=>
  (iter n (fun s=>dB n a2 v7 s.1 s.2.1 s.2.2) (v9,(0:Int),v11)).bind fun t12=>
  some (.inl ((IntKind.i64.wrap (s5+(1:Int))),t12))
 else
 some (.inr s6)
def fK(n:Nat)(a1:(List Int))(a2:(List Int)):Option Int:=
 (IN 8 (IntKind.i64.wrap ((a2.length:Int)+(1:Int))) ((0:Int):Int)).bind fun v3=>
 (iter n (fun s=>eh n v3 s.1 s.2) ((0:Int),v3)).bind fun t4=>
 (iter n (fun s=>ei n a1 a2 s.1 s.2) ((0:Int),t4)).bind fun t5=>
 (ix t5 (a2.length:Int)).bind fun _=>
 (ix t5 (a2.length:Int)).bind fun v7=>
 some v7
def mh(n:Nat)(a1:(List UInt8))(a2:(List UInt8)):Option Int:=
 (dU n a1).bind fun v3=>
 (dU n a2).bind fun v4=>
 (fK n v3 v4).bind fun v5=>
 some v5
def jq(n:Nat)(a1:(List UInt8))(a2:(List UInt8)):Option Bool:=
 (mh n a1 a2).bind fun v3=>
 some (decide (v3≤(2:Int)))
def dw(_:Nat)(a1:Bool)(a2:Bool):Option Int:=
 if a1=true then
  some (1:Int)
 else
 if a2=true then
  some (2:Int)
 else
 some (3:Int)
def ev(_:Nat)(a1:(List Int))(p2:Int→Option Bool)(s3:Int):Option (Int⊕(Int⊕Unit)):=
 if (decide (s3<(a1.length:Int)))=true then
  (ix a1 s3).bind fun v4=>
  (p2 v4).bind fun v5=>
  if v5=true then
   some (.inr (.inl s3))
  else
  some (.inl (IntKind.i64.wrap (s3+(1:Int))))
 else
 some (.inr (.inr ()))
def fm(n:Nat)(a1:(List Int))(p2:Int→Option Bool):Option Int:=
 (iter n (fun s=>ev n a1 p2 s) (0:Int)).bind fun t3=>match t3 with
 |(.inl u4)=>
  some u4
 |(.inr _)=>
  some (-1:Int)
def a_(n:Nat)(a1:(List Int))(p2:Int→Option Bool):Option Bool:=
 (fm n a1 p2).bind fun v3=>
 some (decide ((0:Int)≤v3))
def dV(n:Nat)(a1:Int)(c2:(List Int)):Option Bool:=
 (bW n c2 a1).bind fun v3=>
 some v3
def gj(n:Nat)(a1:(List Int))(a2:(List Int)):Option Bool:=
 (a_ n a1 (fun y1=>dV n y1 a2)).bind fun v3=>
 some v3
def dW(n:Nat)(a1:Int)(c2:(List Int)):Option Bool:=
 (bW n c2 (IntKind.i64.wrap (a1-(1:Int)))).bind fun v3=>
 ((if (!v3)=true then bW n c2 (IntKind.i64.wrap (a1+(1:Int))) else some default)).bind fun v4=>
 some (v3||v4)
def gk(n:Nat)(a1:(List Int))(a2:(List Int)):Option Bool:=
 (a_ n a1 (fun y1=>dW n y1 a2)).bind fun v3=>
 some v3
def eH(_:Nat)(a1:(List (List UInt8)))(a2:(List UInt8))(s3:Int):Option (Int⊕(Int⊕Unit)):=
 if (decide (s3<(a1.length:Int)))=true then
  (ix a1 s3).bind fun v4=>
  if (decide (a2=v4))=true then
   some (.inr (.inl s3))
  else
  some (.inl (IntKind.i64.wrap (s3+(1:Int))))
 else
 some (.inr (.inr ()))
def fI(n:Nat)(a1:(List (List UInt8)))(a2:(List UInt8)):Option Int:=
 (iter n (fun s=>eH n a1 a2 s) (0:Int)).bind fun t3=>match t3 with
 |(.inl u4)=>
  some u4
 |(.inr _)=>
  some (-1:Int)
def dp(n:Nat)(a1:(List (List UInt8)))(a2:(List UInt8)):Option Bool:=
 (fI n a1 a2).bind fun v3=>
 some (decide ((0:Int)≤v3))
def dh(n:Nat)(a1:(List UInt8))(c2:(List (List UInt8))):Option Bool:=
 (dp n c2 a1).bind fun v3=>
 some v3
def cX(n:Nat)(a1:(List (List UInt8)))(a2:(List (List UInt8))):Option Bool:=
 (bx n a1 (fun y1=>dh n y1 a2)).bind fun v3=>
 some v3
def jz(n:Nat)(a1:af)(a2:af):Option (A7×Int):=
 (dN n a1).bind fun v3=>
 ((if (!(!v3))=true then dN n a2 else some default)).bind fun v4=>
 if ((!v3)||(!v4))=true then
  some ((⟨(0:Int),(0:Int),(0:Int),(0:Int),(0:Int),(0:Int),(0:Int)⟩:A7),(1:Int))
 else
 (
  if ((decide ((0:Int)<(a1.bf.length:Int)))&&(decide ((0:Int)<(a2.bf.length:Int))))=true then
   (bH n a1.bf a2.bf).bind fun v5=>
   (dP n a1.bf a2.bf).bind fun v6=>
   ((if (!v6)=true then CY a1.bf ([32]:List UInt8) else some default)).bind fun v7=>
   ((if (!v6)=true then CY a2.bf ([32]:List UInt8) else some default)).bind fun v8=>
   ((if (!v6)=true then jq n v7 v8 else some default)).bind fun v9=>
   (dw n v5 (v6||v9)).bind fun v10=>
   some (⟨v10,(0:Int),(0:Int),(0:Int),(0:Int),(0:Int),(0:Int)⟩:A7)
  else
  some (⟨(0:Int),(0:Int),(0:Int),(0:Int),(0:Int),(0:Int),(0:Int)⟩:A7):Option A7).bind fun t11=>
 (
  if ((!decide (a1.aM=([]:List UInt8)))&&(!decide (a2.aM=([]:List UInt8))))=true then
   (jq n a1.aM a2.aM).bind fun v12=>
   (dw n (decide (a1.aM=a2.aM)) v12).bind fun qs=>
   some (⟨t11.e0,qs,t11.e2,t11.e3,t11.e4,t11.e5,t11.e6⟩:A7)
  else
  some t11:Option A7).bind fun t14=>
 (
  if ((decide ((0:Int)<(a1.ba.length:Int)))&&(decide ((0:Int)<(a2.ba.length:Int))))=true then
   (gj n a1.ba a2.ba).bind fun uM=>
   (gk n a1.ba a2.ba).bind fun xB=>
   (dw n uM xB).bind fun v17=>
   some (⟨t14.e0,t14.e1,v17,t14.e3,t14.e4,t14.e5,t14.e6⟩:A7)
  else
  some t14:Option A7).bind fun t18=>
 (
  if ((decide ((0:Int)<(a1.bN.length:Int)))&&(decide ((0:Int)<(a2.bN.length:Int))))=true then
   (cX n a1.bN a2.bN).bind fun zz=>
   (dw n zz false).bind fun v20=>
   some (⟨t18.e0,t18.e1,t18.e2,v20,t18.e4,t18.e5,t18.e6⟩:A7)
  else
  some t18:Option A7).bind fun t21=>
 (
  if ((decide ((0:Int)<(a1.bO.length:Int)))&&(decide ((0:Int)<(a2.bO.length:Int))))=true then
   (cX n a1.bO a2.bO).bind fun v22=>
   (dw n v22 false).bind fun v23=>
   some (⟨t21.e0,t21.e1,t21.e2,t21.e3,v23,t21.e5,t21.e6⟩:A7)
  else
  some t21:Option A7).bind fun t24=>
 (
  if ((decide ((0:Int)<(a1.aw.length:Int)))&&(decide ((0:Int)<(a2.aw.length:Int))))=true then
   (bH n a1.aw a2.aw).bind fun v25=>
   (cX n a1.aw a2.aw).bind fun v26=>
   (dw n v25 v26).bind fun US=>
   some (⟨t24.e0,t24.e1,t24.e2,t24.e3,t24.e4,US,t24.e6⟩:A7)
  else
  some t24:Option A7).bind fun t28=>
 (
  if ((decide ((0:Int)<(a1.bh.length:Int)))&&(decide ((0:Int)<(a2.bh.length:Int))))=true then
   (bH n a1.bh a2.bh).bind fun UT=>
   (dw n UT false).bind fun v30=>
   some (⟨t28.e0,t28.e1,t28.e2,t28.e3,t28.e4,t28.e5,v30⟩:A7)
  else
  some t28:Option A7).bind fun t31=>
 some (t31,(0:Int))
def nN(_:Nat)(s2:Int)(v4:A6)(s5:Int)(s6:ej):Option ((Int×ej)⊕ej):=
 if (decide (s5<(3:Int)))=true then
  (ix v4.l (IntKind.i64.wrap ((2:Int)*s5))).bind fun v7=>
  (ix v4.l (IntKind.i64.wrap ((IntKind.i64.wrap ((2:Int)*s5))+(1:Int)))).bind fun v8=>
  (ix s6.l s2).bind fun v9=>
  (ix v9.l s5).bind fun _=>
  (A3.put v9 s5 (⟨v7,v8⟩:ah)).bind fun v11=>
  (ej.put s6 s2 v11).bind fun v12=>
  some (.inl ((IntKind.i64.wrap (s5+(1:Int))),v12))
 else
 some (.inr s6)
def nM(n:Nat)(a1:tf)(s2:Int)(s3:ej):Option ((Int×ej)⊕ej):=
 if (decide (s2<(7:Int)))=true then
  (ix a1.l s2).bind fun v4=>
  (iter n (fun s=>nN n s2 v4 s.1 s.2) ((0:Int),s3)).bind fun t5=>
  some (.inl ((IntKind.i64.wrap (s2+(1:Int))),t5))
 else
 some (.inr s3)
def qt(n:Nat)(a1:tf):Option ej:=
 (iter n (fun s=>nM n a1 s.1 s.2) ((0:Int),(⟨(⟨(⟨(0:Int),(0:Int)⟩:ah),(⟨(0:Int),(0:Int)⟩:ah),(⟨(0:Int),(0:Int)⟩:ah)⟩:A3),(⟨(⟨(0:Int),(0:Int)⟩:ah),(⟨(0:Int),(0:Int)⟩:ah),(⟨(0:Int),(0:Int)⟩:ah)⟩:A3),(⟨(⟨(0:Int),(0:Int)⟩:ah),(⟨(0:Int),(0:Int)⟩:ah),(⟨(0:Int),(0:Int)⟩:ah)⟩:A3),(⟨(⟨(0:Int),(0:Int)⟩:ah),(⟨(0:Int),(0:Int)⟩:ah),(⟨(0:Int),(0:Int)⟩:ah)⟩:A3),(⟨(⟨(0:Int),(0:Int)⟩:ah),(⟨(0:Int),(0:Int)⟩:ah),(⟨(0:Int),(0:Int)⟩:ah)⟩:A3),(⟨(⟨(0:Int),(0:Int)⟩:ah),(⟨(0:Int),(0:Int)⟩:ah),(⟨(0:Int),(0:Int)⟩:ah)⟩:A3),(⟨(⟨(0:Int),(0:Int)⟩:ah),(⟨(0:Int),(0:Int)⟩:ah),(⟨(0:Int),(0:Int)⟩:ah)⟩:A3)⟩:ej))).bind fun t2=>
 some t2
def nV(n:Nat):Option ej:=
 (qt n (⟨(⟨(20:Int),(1:Int),(6:Int),(1:Int),(1:Int),(12:Int)⟩:A6),(⟨(12:Int),(1:Int),(4:Int),(1:Int),(1:Int),(20:Int)⟩:A6),(⟨(2:Int),(1:Int),(3:Int),(2:Int),(4:Int),(5:Int)⟩:A6),(⟨(100:Int),(1:Int),(1:Int),(1:Int),(3:Int),(4:Int)⟩:A6),(⟨(3:Int),(2:Int),(1:Int),(1:Int),(1:Int),(2:Int)⟩:A6),(⟨(6:Int),(5:Int),(1:Int),(1:Int),(9:Int),(10:Int)⟩:A6),(⟨(1:Int),(1:Int),(1:Int),(1:Int),(1:Int),(1:Int)⟩:A6)⟩:tf)).bind fun v1=>
 some v1
def b8(_:Nat)(a1:(List A3))(p2:A3→Option Bool)(s3:Int):Option (Int⊕(Int⊕Unit)):=
 if (decide (s3<(a1.length:Int)))=true then
  (ix a1 s3).bind fun v4=>
  (p2 v4).bind fun v5=>
  if v5=true then
   some (.inr (.inl s3))
  else
  some (.inl (IntKind.i64.wrap (s3+(1:Int))))
 else
 some (.inr (.inr ()))
def ct(n:Nat)(a1:(List A3))(p2:A3→Option Bool):Option Int:=
 (iter n (fun s=>b8 n a1 p2 s) (0:Int)).bind fun t3=>match t3 with
 |(.inl u4)=>
  some u4
 |(.inr _)=>
  some (-1:Int)
def bA(n:Nat)(a1:(List A3))(p2:A3→Option Bool):Option Bool:=
 (ct n a1 p2).bind fun v3=>
 some (decide ((0:Int)≤v3))
def cz(_:Nat)(a1:(List ah))(p2:ah→Option Bool)(s3:Int):Option (Int⊕(Int⊕Unit)):=
 if (decide (s3<(a1.length:Int)))=true then
  (ix a1 s3).bind fun v4=>
  (p2 v4).bind fun v5=>
  if v5=true then
   some (.inr (.inl s3))
  else
  some (.inl (IntKind.i64.wrap (s3+(1:Int))))
 else
 some (.inr (.inr ()))
def c8(n:Nat)(a1:(List ah))(p2:ah→Option Bool):Option Int:=
 (iter n (fun s=>cz n a1 p2 s) (0:Int)).bind fun t3=>match t3 with
 |(.inl u4)=>
  some u4
 |(.inr _)=>
  some (-1:Int)
def bI(n:Nat)(a1:(List ah))(p2:ah→Option Bool):Option Bool:=
 (c8 n a1 p2).bind fun v3=>
 some (decide ((0:Int)≤v3))
def iL(_:Nat)(a1:ah):Option Bool:=
 some ((((decide (a1.aS<(1:Int)))||(decide ((1000:Int)<a1.aS)))||(decide (a1.aU<(1:Int))))||(decide ((1000:Int)<a1.aU)))
def ly(n:Nat)(a1:(List ah)):Option Bool:=
 ((if (decide ((a1.length:Int)≤(12:Int)))=true then bI n a1 (fun y1=>iL n y1) else some default)).bind fun v2=>
 some ((decide ((a1.length:Int)≤(12:Int)))&&(!v2))
def gC(n:Nat)(a1:A3):Option Bool:=
 (ly n a1.l).bind fun v2=>
 some (!v2)
def jW(n:Nat)(a1:ej):Option Bool:=
 (bA n a1.l (fun y1=>gC n y1)).bind fun v2=>
 some (!v2)
def fw(_:Nat)(a1:Int):Option Bool:=
 some ((decide (a1<(0:Int)))||(decide ((3:Int)<a1)))
def eM(_:Nat)(a1:ej)(a2:A7)(s5:(List ah))(s6:Int):Option (((List ah)×Int)⊕(List ah)):=
 if (decide (s6<(7:Int)))=true then
  (
   (ix a2.l s6).bind fun v7=>
   if (!decide (v7=(0:Int)))=true then
    (ix a1.l s6).bind fun v8=>
    (ix v8.l (IntKind.i64.wrap (v7-(1:Int)))).bind fun v9=>
    (app 16 s5 ([v9]:List ah)).bind fun v10=>
    some v10
   else
   some s5:Option (List ah)).bind fun t11=>
  some (.inl (t11,(IntKind.i64.wrap (s6+(1:Int)))))
 else
 some (.inr s5)
def gD(n:Nat)(a1:ej)(a2:A7):Option ((List ah)×Int):=
 (jW n a1).bind fun v3=>
 ((if (!(!v3))=true then a_ n a2.l (fun y1=>fw n y1) else some default)).bind fun v4=>
 if ((!v3)||v4)=true then
  some ([],(1:Int))
 else
 (iter n (fun s=>eM n a1 a2 s.1 s.2) ([],(0:Int))).bind fun t5=>
 some (t5,(0:Int))
def kL(_:Nat)(s2:Int)(s3:(List Int)):Option ((Int×(List Int))⊕(List Int)):=
 if (decide ((0:Int)<s2))=true then
  (rem s2 (65536:Int)).bind fun v4=>
  (app 8 s3 ([v4]:List Int)).bind fun v5=>
  (quo .i64 s2 (65536:Int)).bind fun v6=>
  some (.inl (v6,v5))
 else
 some (.inr s3)
def om(n:Nat)(a1:Int):Option (List Int):=
 (iter n (fun s=>kL n s.1 s.2) (a1,[])).bind fun t2=>
 some t2
def sL(n:Nat)(a1:Int):Option ((List Int)×Int):=
 if (decide (a1<(0:Int)))=true then
  some ([],(2:Int))
 else
 (om n a1).bind fun v2=>
 some (v2,(0:Int))
def fS(n:Nat)(a1:Int):Option (List Int):=
 (sL n a1).bind fun v2=>
 some v2.1
def ec(_:Nat)(a1:(List Int))(p2:Int→Option Bool)(s3:Int):Option (Int⊕(Int⊕Unit)):=
 if (decide (s3<(a1.length:Int)))=true then
  (ix a1 s3).bind fun v4=>
  (p2 v4).bind fun v5=>
  if v5=true then
   some (.inr (.inl s3))
  else
  some (.inl (IntKind.i64.wrap (s3+(1:Int))))
 else
 some (.inr (.inr ()))
def eV(n:Nat)(a1:(List Int))(p2:Int→Option Bool):Option Int:=
 (iter n (fun s=>ec n a1 p2 s) (0:Int)).bind fun t3=>match t3 with
 |(.inl u4)=>
  some u4
 |(.inr _)=>
  some (-1:Int)
def cI(n:Nat)(a1:(List Int))(p2:Int→Option Bool):Option Bool:=
 (eV n a1 p2).bind fun v3=>
 some (decide ((0:Int)≤v3))
def lV(_:Nat)(a1:Int):Option Bool:=
 some ((decide (a1<(0:Int)))||(decide ((65536:Int)≤a1)))
def eD(n:Nat)(a1:(List Int)):Option Bool:=
 ((if (!(decide ((128:Int)<(a1.length:Int))))=true then cI n a1 (fun y1=>lV n y1) else some default)).bind fun v2=>
 if ((decide ((128:Int)<(a1.length:Int)))||v2)=true then
  some false
 else
 ((if (!(decide ((a1.length:Int)=(0:Int))))=true then ix a1 (IntKind.i64.wrap ((a1.length:Int)-(1:Int))) else some default)).bind fun v3=>
 some ((decide ((a1.length:Int)=(0:Int)))||(!decide (v3=(0:Int))))
def fW(_:Nat)(s2:(List Int)):Option ((List Int)⊕(List Int)):=
 ((if (decide ((0:Int)<(s2.length:Int)))=true then ix s2 (IntKind.i64.wrap ((s2.length:Int)-(1:Int))) else some default)).bind fun _=>
 ((if (decide ((0:Int)<(s2.length:Int)))=true then ix s2 (IntKind.i64.wrap ((s2.length:Int)-(1:Int))) else some default)).bind fun v4=>
 if ((decide ((0:Int)<(s2.length:Int)))&&(decide (v4=(0:Int))))=true then
  (oR s2 (0:Int) (IntKind.i64.wrap ((s2.length:Int)-(1:Int)))).bind fun v5=>
  some (.inl v5)
 else
 some (.inr s2)
def jZ(n:Nat)(c1:(List Int)):Option (List Int):=
 (iter n (fun s=>fW n s) c1).bind fun t2=>
 some t2
def iD(_:Nat)(a2:(List Int))(s4:Int)(v6:Int)(s7:Int)(s8:Int)(s9:(List Int)):Option ((Int×Int×(List Int))⊕(Int×(List Int))):=
 if (decide (s8<(a2.length:Int)))=true then
  (ix s9 (IntKind.i64.wrap (s4+s8))).bind fun _=>
  (ix s9 (IntKind.i64.wrap (s4+s8))).bind fun v11=>
  (ix a2 s8).bind fun v12=>
  (rem (IntKind.i64.wrap (s7+(IntKind.i64.wrap (v11+(IntKind.i64.wrap (v6*v12)))))) (65536:Int)).bind fun qs=>
  (ix s9 (IntKind.i64.wrap (s4+s8))).bind fun _=>
  (ku s9 (IntKind.i64.wrap (s4+s8)) qs).bind fun uM=>
  (quo .i64 (IntKind.i64.wrap (s7+(IntKind.i64.wrap (v11+(IntKind.i64.wrap (v6*v12)))))) (65536:Int)).bind fun xB=>
  some (.inl (xB,(IntKind.i64.wrap (s8+(1:Int))),uM))
 else
 some (.inr (s7,s9))
def kJ(n:Nat)(a1:(List Int))(a2:(List Int))(s4:Int)(s5:(List Int)):Option ((Int×(List Int))⊕(List Int)):=
 if (decide (s4<(a1.length:Int)))=true then
  (ix a1 s4).bind fun v6=>
  (iter n (fun s=>iD n a2 s4 v6 s.1 s.2.1 s.2.2) ((0:Int),(0:Int),s5)).bind fun t7=>
  (ix t7.2 (IntKind.i64.wrap (s4+(a2.length:Int)))).bind fun _=>
  (ku t7.2 (IntKind.i64.wrap (s4+(a2.length:Int))) t7.1).bind fun v9=>
  some (.inl ((IntKind.i64.wrap (s4+(1:Int))),v9))
 else
 some (.inr s5)
def kI(n:Nat)(a1:(List Int))(a2:(List Int)):Option (List Int):=
 (IN 8 (IntKind.i64.wrap ((a1.length:Int)+(a2.length:Int))) ((0:Int):Int)).bind fun v3=>
 (iter n (fun s=>kJ n a1 a2 s.1 s.2) ((0:Int),v3)).bind fun t4=>
 (jZ n t4).bind fun v5=>
 some v5
def iq(_:Nat)(s2:(List Int)):Option ((List Int)⊕(List Int)):=
 ((if (decide ((0:Int)<(s2.length:Int)))=true then ix s2 (IntKind.i64.wrap ((s2.length:Int)-(1:Int))) else some default)).bind fun v3=>
 if ((decide ((0:Int)<(s2.length:Int)))&&(decide (v3=(0:Int))))=true then
  (oR s2 (0:Int) (IntKind.i64.wrap ((s2.length:Int)-(1:Int)))).bind fun v4=>
  some (.inl v4)
 else
 some (.inr s2)
def iC(n:Nat)(a1:(List Int)):Option (List Int):=
 (iter n (fun s=>iq n s) a1).bind fun t2=>
 some t2
def j6(n:Nat)(a1:(List Int)):Option ((List Int)×Int):=
 (iC n a1).bind fun v2=>
 if (decide ((128:Int)<(v2.length:Int)))=true then
  some ([],(3:Int))
 else
 some (v2,(0:Int))
def qK(n:Nat)(a1:(List Int))(a2:(List Int)):Option ((List Int)×Int):=
 (eD n a1).bind fun v3=>
 ((if (!(!v3))=true then eD n a2 else some default)).bind fun v4=>
 if ((!v3)||(!v4))=true then
  some ([],(1:Int))
 else
 (kI n a1 a2).bind fun v5=>
 (j6 n v5).bind fun v6=>
 some (v6.1,v6.2)
def lz(n:Nat)(a1:(List Int))(a2:(List Int)):Option (List Int):=
 (qK n a1 a2).bind fun v3=>
 some v3.1
def jH(n:Nat)(a1:(List ah))(s4:(List Int))(s5:(List Int))(s6:Int):Option (((List Int)×(List Int)×Int)⊕((List Int)×(List Int))):=
 if (decide (s6<(a1.length:Int)))=true then
  (ix a1 s6).bind fun v7=>
  (fS n v7.aS).bind fun v8=>
  (lz n s4 v8).bind fun v9=>
  (fS n v7.aU).bind fun v10=>
  (lz n s5 v10).bind fun v11=>
  some (.inl (v9,v11,(IntKind.i64.wrap (s6+(1:Int)))))
 else
 some (.inr (s4,s5))
def nf(n:Nat)(a1:(List ah)):Option ((List Int)×(List Int)):=
 (fS n (1:Int)).bind fun v2=>
 (fS n (1:Int)).bind fun v3=>
 (iter n (fun s=>jH n a1 s.1 s.2.1 s.2.2) (v2,v3,(0:Int))).bind fun t4=>
 some (t4.1,t4.2)
def kM(n:Nat)(a1:(List Int))(a2:Int)(s4:(List Int))(s5:Int):Option (((List Int)×Int)⊕(((List Int)×Int)⊕(List Int))):=
 if (decide (s5<a2))=true then
  (kI n s4 a1).bind fun v6=>
  if (decide ((128:Int)<(v6.length:Int)))=true then
   some (.inr (.inl ([],(3:Int))))
  else
  some (.inl (v6,(IntKind.i64.wrap (s5+(1:Int)))))
 else
 some (.inr (.inr s4))
def oo(n:Nat)(a1:(List Int))(a2:Int):Option ((List Int)×Int):=
 (eD n a1).bind fun v3=>
 if (!v3)=true then
  some ([],(1:Int))
 else
 if ((decide (a2<(0:Int)))||(decide ((1000:Int)<a2)))=true then
  some ([],(2:Int))
 else
 (iter n (fun s=>kM n a1 a2 s.1 s.2) (([(1:Int)]:List Int),(0:Int))).bind fun t4=>match t4 with
 |(.inl u5)=>
  some u5
 |(.inr u6)=>
  some (u6,(0:Int))
def j_(n:Nat)(a1:(List Int)):Option (List Int):=
 (oo n a1 (8:Int)).bind fun v2=>
 some v2.1
def kr(_:Nat)(a1:Int):Option Int:=
 (
  if (decide ((4294967296:Int)≤a1))=true then
   (He .u64 a1 (32:Int)).bind fun v2=>
   some (v2,(32:Int))
  else
  some (a1,(0:Int)):Option (Int×Int)).bind fun t3=>
 (
  if (decide ((65536:Int)≤t3.1))=true then
   (He .u64 t3.1 (16:Int)).bind fun v4=>
   some (v4,(IntKind.i64.wrap (t3.2+(16:Int))))
  else
  some (t3.1,t3.2):Option (Int×Int)).bind fun t5=>
 (
  if (decide ((256:Int)≤t5.1))=true then
   (He .u64 t5.1 (8:Int)).bind fun v6=>
   some (v6,(IntKind.i64.wrap (t5.2+(8:Int))))
  else
  some (t5.1,t5.2):Option (Int×Int)).bind fun t7=>
 (EY ([0,1,2,2,3,3,3,3,4,4,4,4,4,4,4,4,5,5,5,5,5,5,5,5,5,5,5,5,5,5,5,5,6,6,6,6,6,6,6,6,6,6,6,6,6,6,6,6,6,6,6,6,6,6,6,6,6,6,6,6,6,6,6,6,7,7,7,7,7,7,7,7,7,7,7,7,7,7,7,7,7,7,7,7,7,7,7,7,7,7,7,7,7,7,7,7,7,7,7,7,7,7,7,7,7,7,7,7,7,7,7,7,7,7,7,7,7,7,7,7,7,7,7,7,7,7,7,7,8,8,8,8,8,8,8,8,8,8,8,8,8,8,8,8,8,8,8,8,8,8,8,8,8,8,8,8,8,8,8,8,8,8,8,8,8,8,8,8,8,8,8,8,8,8,8,8,8,8,8,8,8,8,8,8,8,8,8,8,8,8,8,8,8,8,8,8,8,8,8,8,8,8,8,8,8,8,8,8,8,8,8,8,8,8,8,8,8,8,8,8,8,8,8,8,8,8,8,8,8,8,8,8,8,8,8,8,8,8,8,8,8,8,8,8,8,8,8,8,8,8,8,8,8,8,8,8]:List UInt8) (IntKind.u8.wrap t7.1)).bind fun v8=>
 some (IntKind.i64.wrap (t7.2+(IntKind.i64.wrap v8)))
def jB(n:Nat)(a1:Int):Option Int:=
 (kr n a1).bind fun v2=>
 some v2
def nI(n:Nat)(a1:(List Int)):Option Int:=
 (eD n a1).bind fun v2=>
 if ((!v2)||(decide ((a1.length:Int)=(0:Int))))=true then
  some (0:Int)
 else
 (ix a1 (IntKind.i64.wrap ((a1.length:Int)-(1:Int)))).bind fun v3=>
 (jB n (IntKind.u64.wrap v3)).bind fun v4=>
 some (IntKind.i64.wrap ((IntKind.i64.wrap ((16:Int)*(IntKind.i64.wrap ((a1.length:Int)-(1:Int)))))+v4))
def mA(n:Nat)(a1:(List Int))(a2:Int):Option ((List Int)×Int):=
 (eD n a1).bind fun v3=>
 if (!v3)=true then
  some ([],(1:Int))
 else
 if ((decide (a2<(0:Int)))||(decide ((2047:Int)<a2)))=true then
  some ([],(2:Int))
 else
 if (decide ((a1.length:Int)=(0:Int)))=true then
  some ([],(0:Int))
 else
 (quo .i64 a2 (16:Int)).bind fun v4=>
 (IN 8 v4 ((0:Int):Int)).bind fun v5=>
 (rem a2 (16:Int)).bind fun v6=>
 (E6 .i64 (1:Int) v6).bind fun v7=>
 (kI n a1 ([v7]:List Int)).bind fun v8=>
 (app 8 v5 v8).bind fun v9=>
 (j6 n v9).bind fun v10=>
 some (v10.1,v10.2)
def jA(_:Nat)(a1:Int):Option Bool:=
 some (!decide (a1=a1))
def fy(n:Nat)(a1:Int)(a2:Int):Option Int:=
 (jA n a1).bind fun v3=>
 (jA n a2).bind fun v4=>
 if v3=true then
  if v4=true then
   some (0:Int)
  else
  some (-1:Int)
 else
 if v4=true then
  some (1:Int)
 else
 if (decide (a1<a2))=true then
  some (-1:Int)
 else
 if (decide (a2<a1))=true then
  some (1:Int)
 else
 some (0:Int)
def iB(n:Nat)(a1:(List Int))(a2:(List Int))(s4:Int):Option (Int⊕(Int⊕Unit)):=
 if (decide (s4<(a1.length:Int)))=true then
  (ix a1 (IntKind.i64.wrap ((IntKind.i64.wrap ((a1.length:Int)-(1:Int)))-s4))).bind fun v5=>
  (ix a2 (IntKind.i64.wrap ((IntKind.i64.wrap ((a1.length:Int)-(1:Int)))-s4))).bind fun v6=>
  if (!decide (v5=v6))=true then
   (ix a1 (IntKind.i64.wrap ((IntKind.i64.wrap ((a1.length:Int)-(1:Int)))-s4))).bind fun v7=>
   (ix a2 (IntKind.i64.wrap ((IntKind.i64.wrap ((a1.length:Int)-(1:Int)))-s4))).bind fun v8=>
   (fy n v7 v8).bind fun v9=>
   some (.inr (.inl v9))
  else
  some (.inl (IntKind.i64.wrap (s4+(1:Int))))
 else
 some (.inr (.inr ()))
def lW(n:Nat)(a1:(List Int))(a2:(List Int)):Option Int:=
 if (!decide ((a1.length:Int)=(a2.length:Int)))=true then
  (fy n (a1.length:Int) (a2.length:Int)).bind fun v3=>
  some v3
 else
 (iter n (fun s=>iB n a1 a2 s) (0:Int)).bind fun t4=>match t4 with
 |(.inl u5)=>
  some u5
 |(.inr _)=>
  some (0:Int)
def lX(n:Nat)(a1:(List Int))(a2:(List Int)):Option Int:=
 (eD n a1).bind fun v3=>
 ((if (!(!v3))=true then eD n a2 else some default)).bind fun v4=>
 if ((!v3)||(!v4))=true then
  some (0:Int)
 else
 (lW n a1 a2).bind fun v5=>
 some v5
def ng(n:Nat)(a1:(List Int))(a2:(List Int)):Option Int:=
 (nI n a1).bind fun v3=>
 (nI n a2).bind fun v4=>
 (mA n a2 (max (IntKind.i64.wrap (v3-v4)) (0:Int))).bind fun v5=>
 (mA n a1 (max (IntKind.i64.wrap (-(IntKind.i64.wrap (v3-v4)))) (0:Int))).bind fun v6=>
 (
  (lX n v5.1 v6.1).bind fun v7=>
  if (decide ((0:Int)<v7))=true then
   some (IntKind.i64.wrap ((IntKind.i64.wrap (v3-v4))-(1:Int)))
  else
  some (IntKind.i64.wrap (v3-v4)):Option Int).bind fun t8=>
 some t8
def hF(n:Nat)(a1:(List ah)):Option (Int×Int):=
 (ly n a1).bind fun v2=>
 if (!v2)=true then
  some ((0:Int),(1:Int))
 else
 (nf n a1).bind fun v3=>
 (j_ n v3.1).bind fun v4=>
 (j_ n v3.2).bind fun v5=>
 (ng n v4 v5).bind fun v6=>
 some (v6,(0:Int))
def kH(n:Nat)(a1:ej)(a2:A7):Option (Int×Int):=
 (gD n a1 a2).bind fun v3=>
 if (!decide (v3.2=(0:Int)))=true then
  some ((0:Int),v3.2)
 else
 (hF n v3.1).bind fun v4=>
 some (v4.1,v4.2)
def iu(n:Nat)(a1:(List af))(a2:Int)(a3:Int):Option (aB×Bool):=
 (gH n a1 a2).bind fun v4=>
 (gH n a1 a3).bind fun v5=>
 if ((!v4.2)||(!v5.2))=true then
  some ((⟨(0:Int),(0:Int),false,(⟨(0:Int),(0:Int),(0:Int),(0:Int),(0:Int),(0:Int),(0:Int)⟩:A7),(0:Int)⟩:aB),false)
 else
 (jz n v4.1 v5.1).bind fun v6=>
 (nV n).bind fun v7=>
 (kH n v7 v6.1).bind fun v8=>
 some ((⟨a2,a3,false,v6.1,v8.1⟩:aB),(decide ((0:Int)<v8.1)))
def iR(n:Nat)(a1:(List af))(a2:(List ae))(a3:aB):Option Bool:=
 if (decide (a3.fA=a3.fB))=true then
  some false
 else
 if a3.mD=true then
  (iQ n a2 a3.fA).bind fun v4=>
  (bW n v4 a3.fB).bind fun v5=>
  some ((v5&&(decide (a3.bD=(⟨(0:Int),(0:Int),(0:Int),(0:Int),(0:Int),(0:Int),(0:Int)⟩:A7))))&&(decide (a3.fO=(0:Int))))
 else
 (iu n a1 a3.fA a3.fB).bind fun v6=>
 some (v6.2&&(decide (a3=v6.1)))
def cV(_:Nat)(a1:(List af))(s8:Int)(s9:(List (Int×Bool))):Option ((Int×(List (Int×Bool)))⊕(Int⊕(List (Int×Bool)))):=
 if (decide (s8<(a1.length:Int)))=true then
  (ix a1 s8).bind fun v10=>
  if ((ft s9 v10.nU).getD (false:Bool))=true then
   some (.inr (.inl (1:Int)))
  else
  (some (jl s9 v10.nU true)).bind fun v11=>
  some (.inl ((IntKind.i64.wrap (s8+(1:Int))),v11))
 else
 some (.inr (.inr s9))
def eB(n:Nat)(a1:(List af))(a2:(List ae))(a5:(List aB))(i_:Int)(QT:Int):Option ((Int×Int)⊕(Int⊕Int)):=
 if (decide (QT<(a5.length:Int)))=true then
  (ix a5 QT).bind fun qs=>
  ((if (!(!decide (qs.fA=i_)))=true then iR n a1 a2 qs else some default)).bind fun uH=>
  if ((!decide (qs.fA=i_))||(!uH))=true then
   some (.inr (.inl (17:Int)))
  else
  some (.inl (qs.fB,(IntKind.i64.wrap (QT+(1:Int)))))
 else
 some (.inr (.inr i_))
def cQ(n:Nat)(a1:(List af))(a2:(List ae))(a3:Int)(a4:Int)(a5:(List aB)):Option Int:=
 (eR n a2).bind fun v6=>
 ((if (!(!v6))=true then bc n a1 (fun y1=>eU n y1) else some default)).bind fun v7=>
 if ((!v6)||v7)=true then
  some (1:Int)
 else
 (iter n (fun s=>cV n a1 s.1 s.2) ((0:Int),[])).bind fun t8=>match t8 with
 |(.inl u9)=>
  some u9
 |(.inr _)=>
  if ((decide (a3=a4))&&(decide ((0:Int)<(a5.length:Int))))=true then
   some (17:Int)
  else
  (iter n (fun s=>eB n a1 a2 a5 s.1 s.2) (a3,(0:Int))).bind fun t11=>match t11 with
  |(.inl W2)=>
   some W2
  |(.inr u13)=>
   if (!decide (u13=a4))=true then
    some (17:Int)
   else
   some (0:Int)
def gI(_:Nat)(a1:(List af))(a2:Int)(s3:Int):Option (Int⊕((af×Bool)⊕Unit)):=
 if (decide (s3<(a1.length:Int)))=true then
  (ix a1 s3).bind fun v4=>
  if (decide (v4.nU=a2))=true then
   (ix a1 s3).bind fun v5=>
   some (.inr (.inl (v5,true)))
  else
  some (.inl (IntKind.i64.wrap (s3+(1:Int))))
 else
 some (.inr (.inr ()))
def jt(n:Nat)(a1:(List af))(a2:Int):Option (af×Bool):=
 (iter n (fun s=>gI n a1 a2 s) (0:Int)).bind fun t3=>match t3 with
 |(.inl u4)=>
  some u4
 |(.inr _)=>
  some ((⟨(0:Int),[],([]:List UInt8),[],[],[],[],[]⟩:af),false)
def jO(_:Nat)(a1:(List UInt8))(a3:Int)(a4:Int)(s5:Int):Option (Int⊕(Bool⊕Unit)):=
 if (decide (s5<(a1.length:Int)))=true then
  (EY a1 s5).bind fun v6=>
  ((if (!(decide (v6<a3)))=true then EY a1 s5 else some default)).bind fun v7=>
  if ((decide (v6<a3))||(decide (a4<v7)))=true then
   some (.inr (.inl false))
  else
  some (.inl (IntKind.i64.wrap (s5+(1:Int))))
 else
 some (.inr (.inr ()))
def ju(n:Nat)(a1:(List UInt8))(a2:Int)(a3:Int)(a4:Int):Option Bool:=
 (iter n (fun s=>jO n a1 a3 a4 s) (0:Int)).bind fun t5=>match t5 with
 |(.inl u6)=>
  some u6
 |(.inr _)=>
  some (decide ((a1.length:Int)=a2))
def jP(_:Nat)(a1:(List UInt8))(s2:Int):Option (Int⊕(Bool⊕Unit)):=
 if (decide (s2<(a1.length:Int)))=true then
  (EY a1 s2).bind fun v3=>
  if (decide (v3≤(32:Int)))=true then
   some (.inr (.inl false))
  else
  some (.inl (IntKind.i64.wrap (s2+(1:Int))))
 else
 some (.inr (.inr ()))
def ns(n:Nat)(a1:(List UInt8)):Option Bool:=
 (iter n (fun s=>jP n a1 s) (0:Int)).bind fun t2=>match t2 with
 |(.inl u3)=>
  some u3
 |(.inr _)=>
  some ((decide ((1:Int)≤(a1.length:Int)))&&(decide ((a1.length:Int)≤(400:Int))))
def iS(n:Nat)(a1:(List (List UInt8)))(s2:Int):Option (Int⊕(Bool⊕Unit)):=
 if (decide (s2<(a1.length:Int)))=true then
  (ix a1 s2).bind fun v3=>
  (ns n v3).bind fun v4=>
  if (!v4)=true then
   some (.inr (.inl false))
  else
  some (.inl (IntKind.i64.wrap (s2+(1:Int))))
 else
 some (.inr (.inr ()))
def ia(n:Nat)(a1:(List (List UInt8))):Option Bool:=
 (iter n (fun s=>iS n a1 s) (0:Int)).bind fun t2=>match t2 with
 |(.inl u3)=>
  some u3
 |(.inr _)=>
  some (decide ((a1.length:Int)≤(200:Int)))
def kY(_:Nat)(a1:(List UInt8))(s2:Int):Option (Int⊕(Bool⊕Unit)):=
 if (decide (s2<(a1.length:Int)))=true then
  (EY a1 s2).bind fun v3=>
  if (decide (v3<(32:Int)))=true then
   some (.inr (.inl false))
  else
  some (.inl (IntKind.i64.wrap (s2+(1:Int))))
 else
 some (.inr (.inr ()))
def oD(n:Nat)(a1:(List UInt8)):Option Bool:=
 (iter n (fun s=>kY n a1 s) (0:Int)).bind fun t2=>match t2 with
 |(.inl u3)=>
  some u3
 |(.inr _)=>
  ((if ((decide ((a1.length:Int)≤(420:Int)))&&(!(decide (a1=([]:List UInt8)))))=true then EY a1 (0:Int) else some default)).bind fun v5=>
  ((if (((decide ((a1.length:Int)≤(420:Int)))&&(!(decide (a1=([]:List UInt8)))))&&(!decide (v5=(32:Int))))=true then EY a1 (IntKind.i64.wrap ((a1.length:Int)-(1:Int))) else some default)).bind fun v6=>
  some ((decide ((a1.length:Int)≤(420:Int)))&&((decide (a1=([]:List UInt8)))||((!decide (v5=(32:Int)))&&(!decide (v6=(32:Int))))))
def bL(_:Nat)(a1:(List (List UInt8)))(s2:Int):Option (Int⊕(Bool⊕Unit)):=
 if (decide (s2<(a1.length:Int)))=true then
  (ix a1 (IntKind.i64.wrap (s2-(1:Int)))).bind fun v3=>
  (ix a1 s2).bind fun v4=>
  if (!Lw v3 v4)=true then
   some (.inr (.inl false))
  else
  some (.inl (IntKind.i64.wrap (s2+(1:Int))))
 else
 some (.inr (.inr ()))
def dH(n:Nat)(a1:(List (List UInt8))):Option Bool:=
 (iter n (fun s=>bL n a1 s) (1:Int)).bind fun t2=>match t2 with
 |(.inl u3)=>
  some u3
 |(.inr _)=>
  some true
def f_(_:Nat)(a1:af)(s2:Int):Option (Int⊕(Bool⊕Unit)):=
 if (decide (s2<(a1.ba.length:Int)))=true then
  (ix a1.ba s2).bind fun v3=>
  ((if (!(decide (v3<(1000:Int))))=true then ix a1.ba s2 else some default)).bind fun v4=>
  ((if ((!((decide (v3<(1000:Int)))||(decide ((2999:Int)<v4))))&&(decide ((0:Int)<s2)))=true then ix a1.ba (IntKind.i64.wrap (s2-(1:Int))) else some default)).bind fun v5=>
  ((if ((!((decide (v3<(1000:Int)))||(decide ((2999:Int)<v4))))&&(decide ((0:Int)<s2)))=true then ix a1.ba s2 else some default)).bind fun v6=>
  if (((decide (v3<(1000:Int)))||(decide ((2999:Int)<v4)))||((decide ((0:Int)<s2))&&(decide (v6≤v5))))=true then
   some (.inr (.inl false))
  else
  some (.inl (IntKind.i64.wrap (s2+(1:Int))))
 else
 some (.inr (.inr ()))
def lD(n:Nat)(a1:af)(s5:Int):Option (Int⊕(Bool⊕Unit)):=
 if (decide (s5<(a1.bN.length:Int)))=true then
  (ix a1.bN s5).bind fun v6=>
  (ju n v6 (13:Int) (48:Int) (57:Int)).bind fun v7=>
  if (!v7)=true then
   some (.inr (.inl false))
  else
  some (.inl (IntKind.i64.wrap (s5+(1:Int))))
 else
 some (.inr (.inr ()))
def lE(n:Nat)(a1:af)(s8:Int):Option (Int⊕(Bool⊕Unit)):=
 if (decide (s8<(a1.bO.length:Int)))=true then
  (ix a1.bO s8).bind fun v9=>
  (ju n v9 (3:Int) (97:Int) (122:Int)).bind fun v10=>
  if (!v10)=true then
   some (.inr (.inl false))
  else
  some (.inl (IntKind.i64.wrap (s8+(1:Int))))
 else
 some (.inr (.inr ()))
def ib(n:Nat)(a1:af):Option Bool:=
 (iter n (fun s=>f_ n a1 s) (0:Int)).bind fun t2=>match t2 with
 |(.inl u3)=>
  some u3
 |(.inr _)=>
  (iter n (fun s=>lD n a1 s) (0:Int)).bind fun t5=>match t5 with
  |(.inl u6)=>
   some u6
  |(.inr _)=>
   (iter n (fun s=>lE n a1 s) (0:Int)).bind fun t8=>match t8 with
   |(.inl u9)=>
    some u9
   |(.inr _)=>
    if (((((decide ((20:Int)<(a1.ba.length:Int)))||(decide ((20:Int)<(a1.bN.length:Int))))||(decide ((20:Int)<(a1.bO.length:Int))))||(decide (a1.nU<(1:Int))))||(decide ((1000000000:Int)<a1.nU)))=true then
     some false
    else
    (ia n a1.bf).bind fun v11=>
    ((if v11=true then ia n a1.aw else some default)).bind fun v12=>
    ((if (v11&&v12)=true then ia n a1.bh else some default)).bind fun qs=>
    ((if ((v11&&v12)&&qs)=true then oD n a1.aM else some default)).bind fun uH=>
    ((if (((v11&&v12)&&qs)&&uH)=true then dH n a1.bN else some default)).bind fun uM=>
    ((if ((((v11&&v12)&&qs)&&uH)&&uM)=true then dH n a1.bO else some default)).bind fun xB=>
    ((if (((((v11&&v12)&&qs)&&uH)&&uM)&&xB)=true then dH n a1.aw else some default)).bind fun v17=>
    ((if ((((((v11&&v12)&&qs)&&uH)&&uM)&&xB)&&v17)=true then dH n a1.bh else some default)).bind fun ES=>
    some (((((((v11&&v12)&&qs)&&uH)&&uM)&&xB)&&v17)&&ES)
def eW(_:Nat)(a1:(List ae))(s2:Int):Option (Int⊕(Bool⊕Unit)):=
 if (decide (s2<(a1.length:Int)))=true then
  (ix a1 s2).bind fun v3=>
  if (((((((!decide (v3.ee=(1:Int)))&&(!decide (v3.ee=(2:Int))))||(decide (v3.fA<(1:Int))))||(decide ((1000000000:Int)<v3.fA)))||(decide (v3.fB<(1:Int))))||(decide ((1000000000:Int)<v3.fB)))||(decide (v3.fA=v3.fB)))=true then
   some (.inr (.inl false))
  else
  some (.inl (IntKind.i64.wrap (s2+(1:Int))))
 else
 some (.inr (.inr ()))
def kd(n:Nat)(a1:(List ae)):Option Bool:=
 (iter n (fun s=>eW n a1 s) (0:Int)).bind fun t2=>match t2 with
 |(.inl u3)=>
  some u3
 |(.inr _)=>
  some (decide ((a1.length:Int)≤(400:Int)))
def gx(_:Nat)(a1:(List Int))(a2:Int)(s3:Int):Option (Int⊕(Bool⊕Unit)):=
 if (decide (s3<(a1.length:Int)))=true then
  (ix a1 s3).bind fun v4=>
  if (decide (v4=a2))=true then
   some (.inr (.inl true))
  else
  some (.inl (IntKind.i64.wrap (s3+(1:Int))))
 else
 some (.inr (.inr ()))
def kZ(n:Nat)(a1:(List Int))(a2:Int):Option Bool:=
 (iter n (fun s=>gx n a1 a2 s) (0:Int)).bind fun t3=>match t3 with
 |(.inl u4)=>
  some u4
 |(.inr _)=>
  some false
def gy(_:Nat)(a1:(List Int))(a2:Int)(s3:Int):Option (Int⊕Int):=
 ((if (decide (s3<(a1.length:Int)))=true then ix a1 s3 else some default)).bind fun v4=>
 if ((decide (s3<(a1.length:Int)))&&(decide (v4<a2)))=true then
  some (.inl (IntKind.i64.wrap (s3+(1:Int))))
 else
 some (.inr s3)
def je(n:Nat)(a1:(List Int))(a2:Int):Option (List Int):=
 (iter n (fun s=>gy n a1 a2 s) (0:Int)).bind fun t3=>
 ((if (decide (t3<(a1.length:Int)))=true then ix a1 t3 else some default)).bind fun v4=>
 if ((decide (t3<(a1.length:Int)))&&(decide (v4=a2)))=true then
  some a1
 else
 (oR a1 0 t3).bind fun v5=>
 (oR a1 t3 (a1.length:Int)).bind fun v6=>
 (app 8 (([a2]:List Int):List Int) v6).bind fun v7=>
 (app 8 (v5:List Int) v7).bind fun v8=>
 some v8
def d_(n:Nat)(a1:(List ae))(s5:(List Int))(s6:Bool)(s7:Int):Option (((List Int)×Bool×Int)⊕((List Int)×Bool)):=
 if (decide (s7<(a1.length:Int)))=true then
  (
   (ix a1 s7).bind fun v8=>
   ((if (decide (v8.ee=(1:Int)))=true then ix a1 s7 else some default)).bind fun v9=>
   ((if (decide (v8.ee=(1:Int)))=true then kZ n s5 v9.fA else some default)).bind fun v10=>
   ((if (decide (v8.ee=(1:Int)))=true then ix a1 s7 else some default)).bind fun v11=>
   ((if (decide (v8.ee=(1:Int)))=true then kZ n s5 v11.fB else some default)).bind fun v12=>
   if ((decide (v8.ee=(1:Int)))&&(!(v10==v12)))=true then
    (ix a1 s7).bind fun qs=>
    (je n s5 qs.fA).bind fun uH=>
    (ix a1 s7).bind fun uM=>
    (je n uH uM.fB).bind fun xB=>
    some (xB,true)
   else
   some (s5,s6):Option ((List Int)×Bool)).bind fun t17=>
  some (.inl (t17.1,t17.2,(IntKind.i64.wrap (s7+(1:Int)))))
 else
 some (.inr (s5,s6))
def dZ(n:Nat)(a1:(List ae))(s3:(List Int))(s4:Bool):Option (((List Int)×Bool)⊕(List Int)):=
 if s4=true then
  (iter n (fun s=>d_ n a1 s.1 s.2.1 s.2.2) (s3,false,(0:Int))).bind fun t5=>
  some (.inl (t5.1,t5.2))
 else
 some (.inr s3)
def l8(n:Nat)(a1:(List ae))(a2:Int):Option (List Int):=
 (iter n (fun s=>dZ n a1 s.1 s.2) (([a2]:List Int),true)).bind fun t3=>
 some t3
def l9(n:Nat)(a1:(List ae))(a2:Int):Option ((List Int)×Int):=
 (kd n a1).bind fun v3=>
 if (!v3)=true then
  some ([],(1:Int))
 else
 (l8 n a1 a2).bind fun v4=>
 some (v4,(0:Int))
def pe(n:Nat)(a1:(List ae))(a2:Int)(a3:Int):Option Bool:=
 (l9 n a1 a2).bind fun v4=>
 (kZ n v4.1 a3).bind fun v5=>
 some v5
def l_(_:Nat)(a1:(List (List UInt8)))(a2:(List UInt8))(s3:Int):Option (Int⊕(Bool⊕Unit)):=
 if (decide (s3<(a1.length:Int)))=true then
  (ix a1 s3).bind fun v4=>
  if (decide (v4=a2))=true then
   some (.inr (.inl true))
  else
  some (.inl (IntKind.i64.wrap (s3+(1:Int))))
 else
 some (.inr (.inr ()))
def nP(n:Nat)(a1:(List (List UInt8)))(a2:(List UInt8)):Option Bool:=
 (iter n (fun s=>l_ n a1 a2 s) (0:Int)).bind fun t3=>match t3 with
 |(.inl u4)=>
  some u4
 |(.inr _)=>
  some false
def gX(n:Nat)(a1:(List (List UInt8)))(a2:(List (List UInt8)))(s3:Int)(s4:Int):Option ((Int×Int)⊕Int):=
 if (decide (s4<(a1.length:Int)))=true then
  (
   (ix a1 s4).bind fun v5=>
   (nP n a2 v5).bind fun v6=>
   ((if v6=true then oR a1 (0:Int) s4 else some default)).bind fun v7=>
   ((if v6=true then ix a1 s4 else some default)).bind fun v8=>
   ((if v6=true then nP n v7 v8 else some default)).bind fun v9=>
   if (v6&&(!v9))=true then
    some (IntKind.i64.wrap (s3+(1:Int)))
   else
   some s3:Option Int).bind fun t10=>
  some (.inl (t10,(IntKind.i64.wrap (s4+(1:Int)))))
 else
 some (.inr s3)
def eA(n:Nat)(a1:(List (List UInt8)))(a2:(List (List UInt8))):Option Int:=
 (iter n (fun s=>gX n a1 a2 s.1 s.2) ((0:Int),(0:Int))).bind fun t3=>
 some t3
def fp(_:Nat)(a1:(List (List UInt8)))(a2:(List (List UInt8)))(s3:Int):Option (Int⊕(Bool⊕Unit)):=
 if (decide (s3<(a1.length:Int)))=true then
  (ix a1 s3).bind fun v4=>
  (ix a2 s3).bind fun v5=>
  if (!decide (v4=v5))=true then
   some (.inr (.inl false))
  else
  some (.inl (IntKind.i64.wrap (s3+(1:Int))))
 else
 some (.inr (.inr ()))
def fD(n:Nat)(a1:(List (List UInt8)))(a2:(List (List UInt8))):Option Bool:=
 if (!decide ((a1.length:Int)=(a2.length:Int)))=true then
  some false
 else
 (iter n (fun s=>fp n a1 a2 s) (0:Int)).bind fun t3=>match t3 with
 |(.inl u4)=>
  some u4
 |(.inr _)=>
  some true
def gY(_:Nat)(a1:(List (List UInt8)))(s2:(List UInt8))(s3:Int):Option (((List UInt8)×Int)⊕(List UInt8)):=
 if (decide (s3<(a1.length:Int)))=true then
  (
   if (decide ((0:Int)<s3))=true then
    (J2 s2 ([32]:List UInt8)).bind fun v4=>
    some v4
   else
   some s2:Option (List UInt8)).bind fun t5=>
  (ix a1 s3).bind fun v6=>
  (J2 t5 v6).bind fun v7=>
  some (.inl (v7,(IntKind.i64.wrap (s3+(1:Int)))))
 else
 some (.inr s2)
def iT(n:Nat)(a1:(List (List UInt8))):Option (List UInt8):=
 (iter n (fun s=>gY n a1 s.1 s.2) (([]:List UInt8),(0:Int))).bind fun t2=>
 some t2
def nQ(_:Nat)(a1:(List UInt8))(s2:(List Int))(s3:Nat):Option (((List Int)×Nat)⊕((List Int)×Nat)):=
 (some (UG a1 s3)).bind fun v4=>
 if v4.1=true then
  (app 8 s2 ([(IntKind.i64.wrap v4.2.2.1)]:List Int)).bind fun v5=>
  some (.inl (v5,v4.2.2.2))
 else
 some (.inr (s2,v4.2.2.2))
def ma(n:Nat)(a1:(List UInt8)):Option (List Int):=
 (iter n (fun s=>nQ n a1 s.1 s.2) ([],0)).bind fun t2=>
 some t2.1
def iV(_:Nat)(a1:(List Int))(a2:(List Int))(s5:Int)(kp:Int)(i_:(List (Bool×(List Int)))):Option ((Int×(List (Bool×(List Int))))⊕(List (Bool×(List Int)))):=
 if (decide ((0:Int)≤kp))=true then
  (
   if (decide (s5=(a1.length:Int)))=true then
    (ix i_ s5).bind fun _=>
    (ix i_ s5).bind fun _=>
    (lU i_ s5 kp).bind fun _=>
    (uG i_ s5 kp (IntKind.i64.wrap ((a2.length:Int)-kp))).bind fun uM=>
    some uM
   else
   if (decide (kp=(a2.length:Int)))=true then
    (ix i_ s5).bind fun _=>
    (ix i_ s5).bind fun _=>
    (lU i_ s5 kp).bind fun _=>
    (uG i_ s5 kp (IntKind.i64.wrap ((a1.length:Int)-s5))).bind fun zz=>
    some zz
   else
   (ix a1 s5).bind fun v20=>
   (ix a2 kp).bind fun v21=>
   if (decide (v20=v21))=true then
    (ix i_ s5).bind fun _=>
    (ix i_ s5).bind fun _=>
    (ix i_ (IntKind.i64.wrap (s5+(1:Int)))).bind fun _=>
    (ix i_ (IntKind.i64.wrap (s5+(1:Int)))).bind fun _=>
    (lU i_ (IntKind.i64.wrap (s5+(1:Int))) (IntKind.i64.wrap (kp+(1:Int)))).bind fun _=>
    (lU i_ (IntKind.i64.wrap (s5+(1:Int))) (IntKind.i64.wrap (kp+(1:Int)))).bind fun US=>
    (lU i_ s5 kp).bind fun _=>
    (uG i_ s5 kp US).bind fun UT=>
    some UT
   else
   (ix i_ s5).bind fun _=>
   (ix i_ s5).bind fun _=>
   (ix i_ (IntKind.i64.wrap (s5+(1:Int)))).bind fun _=>
   (ix i_ (IntKind.i64.wrap (s5+(1:Int)))).bind fun _=>
   (lU i_ (IntKind.i64.wrap (s5+(1:Int))) (IntKind.i64.wrap (kp+(1:Int)))).bind fun _=>
   (lU i_ (IntKind.i64.wrap (s5+(1:Int))) (IntKind.i64.wrap (kp+(1:Int)))).bind fun v35=>
   (ix i_ (IntKind.i64.wrap (s5+(1:Int)))).bind fun _=>
   (ix i_ (IntKind.i64.wrap (s5+(1:Int)))).bind fun _=>
   (lU i_ (IntKind.i64.wrap (s5+(1:Int))) kp).bind fun _=>
   (lU i_ (IntKind.i64.wrap (s5+(1:Int))) kp).bind fun v39=>
   (ix i_ s5).bind fun _=>
   (ix i_ s5).bind fun _=>
   (lU i_ s5 (IntKind.i64.wrap (kp+(1:Int)))).bind fun _=>
   (lU i_ s5 (IntKind.i64.wrap (kp+(1:Int)))).bind fun v43=>
   (lU i_ s5 kp).bind fun _=>
   (uG i_ s5 kp (IntKind.i64.wrap ((1:Int)+(min (min v35 v39) v43)))).bind fun v45=>
   some v45:Option (List (Bool×(List Int)))).bind fun t46=>
  some (.inl ((IntKind.i64.wrap (kp-(1:Int))),t46))
 else
 some (.inr i_)
def iU(n:Nat)(a1:(List Int))(a2:(List Int))(s5:Int)(s6:(List (Bool×(List Int)))):Option ((Int×(List (Bool×(List Int))))⊕(List (Bool×(List Int)))):=
 if (decide ((0:Int)≤s5))=true then
  (IN 8 (IntKind.i64.wrap ((a2.length:Int)+(1:Int))) ((0:Int):Int)).bind fun v7=>
  (ix s6 s5).bind fun _=>
  (IV s6 s5 v7).bind fun v9=>
  (iter n (fun s=>iV n a1 a2 s5 s.1 s.2) ((a2.length:Int),v9)).bind fun t10=>
  some (.inl ((IntKind.i64.wrap (s5-(1:Int))),t10))
 else
 some (.inr s6)
def mc(n:Nat)(a1:(List Int))(a2:(List Int)):Option (List (List Int)):=
 (IN 24 (IntKind.i64.wrap ((a1.length:Int)+(1:Int))) ([]:(List Int))).bind fun v3=>
 (DY v3).bind fun v4=>
 (iter n (fun s=>iU n a1 a2 s.1 s.2) ((a1.length:Int),v4)).bind fun t5=>
 some (t5.map Prod.snd)
def iW(n:Nat)(a1:(List Int))(a2:(List Int)):Option Int:=
 (mc n a1 a2).bind fun v3=>
 (ix v3 (0:Int)).bind fun v4=>
 (ix v4 (0:Int)).bind fun v5=>
 some v5
def lF(n:Nat)(a1:(List UInt8))(a2:(List UInt8)):Option Int:=
 (ma n a1).bind fun v3=>
 (ma n a2).bind fun v4=>
 (iW n v3 v4).bind fun v5=>
 some v5
def me(n:Nat)(a1:(List (List UInt8)))(a2:(List (List UInt8))):Option Int:=
 (eA n a1 a2).bind fun v3=>
 (eA n a1 a1).bind fun v4=>
 (eA n a2 a2).bind fun v5=>
 if ((decide ((a1.length:Int)=(0:Int)))||(decide ((a2.length:Int)=(0:Int))))=true then
  some (0:Int)
 else
 (fD n a1 a2).bind fun v6=>
 if v6=true then
  some (1:Int)
 else
 ((if (!(decide ((IntKind.i64.wrap ((3:Int)*(IntKind.i64.wrap ((IntKind.i64.wrap (v4+v5))-v3))))≤(IntKind.i64.wrap ((4:Int)*v3)))))=true then iT n a1 else some default)).bind fun v7=>
 ((if (!(decide ((IntKind.i64.wrap ((3:Int)*(IntKind.i64.wrap ((IntKind.i64.wrap (v4+v5))-v3))))≤(IntKind.i64.wrap ((4:Int)*v3)))))=true then iT n a2 else some default)).bind fun v8=>
 ((if (!(decide ((IntKind.i64.wrap ((3:Int)*(IntKind.i64.wrap ((IntKind.i64.wrap (v4+v5))-v3))))≤(IntKind.i64.wrap ((4:Int)*v3)))))=true then lF n v7 v8 else some default)).bind fun v9=>
 if ((decide ((IntKind.i64.wrap ((3:Int)*(IntKind.i64.wrap ((IntKind.i64.wrap (v4+v5))-v3))))≤(IntKind.i64.wrap ((4:Int)*v3))))||(decide (v9≤(2:Int))))=true then
  some (2:Int)
 else
 some (3:Int)
def k7(n:Nat)(a1:(List UInt8))(a2:(List UInt8)):Option Int:=
 if ((decide (a1=([]:List UInt8)))||(decide (a2=([]:List UInt8))))=true then
  some (0:Int)
 else
 if (decide (a1=a2))=true then
  some (1:Int)
 else
 (lF n a1 a2).bind fun v3=>
 if (decide (v3≤(2:Int)))=true then
  some (2:Int)
 else
 some (3:Int)
def ga(_:Nat)(a1:(List Int))(a2:(List Int))(s4:Int)(s5:Int)(s6:Int):Option ((Int×Int)⊕(Int⊕Int)):=
 if (decide (s6<(a2.length:Int)))=true then
  (
   (ix a1 s4).bind fun v7=>
   (ix a2 s6).bind fun v8=>
   if (decide ((IntKind.i64.wrap (v7-v8))=(0:Int)))=true then
    some (.inl (1:Int))
   else
   if ((decide ((IntKind.i64.wrap (v7-v8))=(1:Int)))||(decide ((IntKind.i64.wrap (v7-v8))=(-1:Int))))=true then
    some (.inr (2:Int))
   else
   some (.inr s5):Option (Int⊕Int)).bind fun t9=>match t9 with
  |(.inl ZS)=>
   some (.inr (.inl ZS))
  |(.inr ZT)=>
   some (.inl (ZT,(IntKind.i64.wrap (s6+(1:Int)))))
 else
 some (.inr (.inr s5))
def iX(n:Nat)(a1:(List Int))(a2:(List Int))(s3:Int)(s4:Int):Option ((Int×Int)⊕(Int⊕Int)):=
 if (decide (s4<(a1.length:Int)))=true then
  (iter n (fun s=>ga n a1 a2 s4 s.1 s.2) (s3,(0:Int))).bind fun t5=>match t5 with
  |(.inl u6)=>
   some (.inr (.inl u6))
  |(.inr u7)=>
   some (.inl (u7,(IntKind.i64.wrap (s4+(1:Int)))))
 else
 some (.inr (.inr s3))
def mf(n:Nat)(a1:(List Int))(a2:(List Int)):Option Int:=
 if ((decide ((a1.length:Int)=(0:Int)))||(decide ((a2.length:Int)=(0:Int))))=true then
  some (0:Int)
 else
 (iter n (fun s=>iX n a1 a2 s.1 s.2) ((3:Int),(0:Int))).bind fun t3=>match t3 with
 |(.inl u4)=>
  some u4
 |(.inr u5)=>
  some u5
def gZ(n:Nat)(a1:(List (List UInt8)))(a2:(List (List UInt8)))(a3:Bool)(a4:Int):Option Int:=
 if ((decide ((a1.length:Int)=(0:Int)))||(decide ((a2.length:Int)=(0:Int))))=true then
  some (0:Int)
 else
 ((if a3=true then fD n a1 a2 else some default)).bind fun v5=>
 ((if ((!(a3&&v5))&&(!a3))=true then eA n a1 a2 else some default)).bind fun v6=>
 if ((a3&&v5)||((!a3)&&(decide ((0:Int)<v6))))=true then
  some (1:Int)
 else
 (eA n a1 a2).bind fun v7=>
 if (decide ((0:Int)<v7))=true then
  some a4
 else
 some (3:Int)
def jR(n:Nat)(a1:af)(a2:af):Option A7:=
 (me n a1.bf a2.bf).bind fun v3=>
 (k7 n a1.aM a2.aM).bind fun v4=>
 (mf n a1.ba a2.ba).bind fun v5=>
 (gZ n a1.bN a2.bN false (1:Int)).bind fun v6=>
 (gZ n a1.bO a2.bO false (1:Int)).bind fun v7=>
 (gZ n a1.aw a2.aw true (2:Int)).bind fun v8=>
 (gZ n a1.bh a2.bh true (3:Int)).bind fun v9=>
 some (⟨v3,v4,v5,v6,v7,v8,v9⟩:A7)
def jS(n:Nat)(a1:af)(a2:af):Option (A7×Int):=
 (ib n a1).bind fun v3=>
 ((if (!(!v3))=true then ib n a2 else some default)).bind fun v4=>
 if ((!v3)||(!v4))=true then
  some ((⟨(0:Int),(0:Int),(0:Int),(0:Int),(0:Int),(0:Int),(0:Int)⟩:A7),(1:Int))
 else
 (jR n a1 a2).bind fun v5=>
 some (v5,(0:Int))
def nS(_:Nat)(a1:tf)(s2:Int)(s4:Int)(s5:ej):Option ((Int×ej)⊕ej):=
 if (decide (s4<(3:Int)))=true then
  (ix a1.l s2).bind fun v6=>
  (ix v6.l (IntKind.i64.wrap ((2:Int)*s4))).bind fun v7=>
  (ix a1.l s2).bind fun v8=>
  (ix v8.l (IntKind.i64.wrap ((IntKind.i64.wrap ((2:Int)*s4))+(1:Int)))).bind fun v9=>
  (ix s5.l s2).bind fun v10=>
  (ix v10.l s4).bind fun _=>
  (A3.put v10 s4 (⟨v7,v9⟩:ah)).bind fun v12=>
  (ej.put s5 s2 v12).bind fun qs=>
  some (.inl ((IntKind.i64.wrap (s4+(1:Int))),qs))
 else
 some (.inr s5)
def nR(n:Nat)(a1:tf)(s2:Int)(s3:ej):Option ((Int×ej)⊕ej):=
 if (decide (s2<(7:Int)))=true then
  (iter n (fun s=>nS n a1 s2 s.1 s.2) ((0:Int),s3)).bind fun t4=>
  some (.inl ((IntKind.i64.wrap (s2+(1:Int))),t4))
 else
 some (.inr s3)
def qv(n:Nat)(a1:tf):Option ej:=
 (iter n (fun s=>nR n a1 s.1 s.2) ((0:Int),(⟨(⟨(⟨(0:Int),(0:Int)⟩:ah),(⟨(0:Int),(0:Int)⟩:ah),(⟨(0:Int),(0:Int)⟩:ah)⟩:A3),(⟨(⟨(0:Int),(0:Int)⟩:ah),(⟨(0:Int),(0:Int)⟩:ah),(⟨(0:Int),(0:Int)⟩:ah)⟩:A3),(⟨(⟨(0:Int),(0:Int)⟩:ah),(⟨(0:Int),(0:Int)⟩:ah),(⟨(0:Int),(0:Int)⟩:ah)⟩:A3),(⟨(⟨(0:Int),(0:Int)⟩:ah),(⟨(0:Int),(0:Int)⟩:ah),(⟨(0:Int),(0:Int)⟩:ah)⟩:A3),(⟨(⟨(0:Int),(0:Int)⟩:ah),(⟨(0:Int),(0:Int)⟩:ah),(⟨(0:Int),(0:Int)⟩:ah)⟩:A3),(⟨(⟨(0:Int),(0:Int)⟩:ah),(⟨(0:Int),(0:Int)⟩:ah),(⟨(0:Int),(0:Int)⟩:ah)⟩:A3),(⟨(⟨(0:Int),(0:Int)⟩:ah),(⟨(0:Int),(0:Int)⟩:ah),(⟨(0:Int),(0:Int)⟩:ah)⟩:A3)⟩:ej))).bind fun t2=>
 some t2
def nX(n:Nat):Option ej:=
 (qv n (⟨(⟨(20:Int),(1:Int),(6:Int),(1:Int),(1:Int),(12:Int)⟩:A6),(⟨(12:Int),(1:Int),(4:Int),(1:Int),(1:Int),(20:Int)⟩:A6),(⟨(2:Int),(1:Int),(3:Int),(2:Int),(4:Int),(5:Int)⟩:A6),(⟨(100:Int),(1:Int),(1:Int),(1:Int),(3:Int),(4:Int)⟩:A6),(⟨(3:Int),(2:Int),(1:Int),(1:Int),(1:Int),(2:Int)⟩:A6),(⟨(6:Int),(5:Int),(1:Int),(1:Int),(9:Int),(10:Int)⟩:A6),(⟨(1:Int),(1:Int),(1:Int),(1:Int),(1:Int),(1:Int)⟩:A6)⟩:tf)).bind fun v1=>
 some v1
def fY(_:Nat)(a1:(List ah))(s2:Int):Option (Int⊕(Bool⊕Unit)):=
 if (decide (s2<(a1.length:Int)))=true then
  (ix a1 s2).bind fun v3=>
  ((if (!(decide (v3.aS<(1:Int))))=true then ix a1 s2 else some default)).bind fun v4=>
  ((if (!((decide (v3.aS<(1:Int)))||(decide ((1000:Int)<v4.aS))))=true then ix a1 s2 else some default)).bind fun v5=>
  ((if (!(((decide (v3.aS<(1:Int)))||(decide ((1000:Int)<v4.aS)))||(decide (v5.aU<(1:Int)))))=true then ix a1 s2 else some default)).bind fun v6=>
  if ((((decide (v3.aS<(1:Int)))||(decide ((1000:Int)<v4.aS)))||(decide (v5.aU<(1:Int))))||(decide ((1000:Int)<v6.aU)))=true then
   some (.inr (.inl false))
  else
  some (.inl (IntKind.i64.wrap (s2+(1:Int))))
 else
 some (.inr (.inr ()))
def j9(n:Nat)(a1:(List ah)):Option Bool:=
 (iter n (fun s=>fY n a1 s) (0:Int)).bind fun t2=>match t2 with
 |(.inl u3)=>
  some u3
 |(.inr _)=>
  some (decide ((a1.length:Int)≤(12:Int)))
def fV(n:Nat)(a1:ej)(s2:Int)(s3:Int):Option (Int⊕(Bool⊕Unit)):=
 if (decide (s3<(3:Int)))=true then
  (ix a1.l s2).bind fun v4=>
  (ix v4.l s3).bind fun v5=>
  (j9 n ([v5]:List ah)).bind fun v6=>
  if (!v6)=true then
   some (.inr (.inl false))
  else
  some (.inl (IntKind.i64.wrap (s3+(1:Int))))
 else
 some (.inr (.inr ()))
def iA(n:Nat)(a1:ej)(s2:Int):Option (Int⊕(Bool⊕Unit)):=
 if (decide (s2<(7:Int)))=true then
  (iter n (fun s=>fV n a1 s2 s) (0:Int)).bind fun t3=>match t3 with
  |(.inl u4)=>
   some (.inr (.inl u4))
  |(.inr _)=>
   some (.inl (IntKind.i64.wrap (s2+(1:Int))))
 else
 some (.inr (.inr ()))
def jX(n:Nat)(a1:ej):Option Bool:=
 (iter n (fun s=>iA n a1 s) (0:Int)).bind fun t2=>match t2 with
 |(.inl u3)=>
  some u3
 |(.inr _)=>
  some true
def eN(_:Nat)(a1:ej)(a2:A7)(s4:(List ah))(s5:Int):Option (((List ah)×Int)⊕(((List ah)×Int)⊕(List ah))):=
 if (decide (s5<(7:Int)))=true then
  (
   (ix a2.l s5).bind fun v6=>
   ((if (!(decide (v6<(0:Int))))=true then ix a2.l s5 else some default)).bind fun v7=>
   if ((decide (v6<(0:Int)))||(decide ((3:Int)<v7)))=true then
    some (.inl ([],(1:Int)))
   else
   (ix a2.l s5).bind fun v8=>
   if (!decide (v8=(0:Int)))=true then
    (ix a2.l s5).bind fun v9=>
    (ix a1.l s5).bind fun v10=>
    (ix v10.l (IntKind.i64.wrap (v9-(1:Int)))).bind fun v11=>
    (app 16 s4 ([v11]:List ah)).bind fun v12=>
    some (.inr v12)
   else
   some (.inr s4):Option (((List ah)×Int)⊕(List ah))).bind fun t13=>match t13 with
  |(.inl u14)=>
   some (.inr (.inl u14))
  |(.inr u15)=>
   some (.inl (u15,(IntKind.i64.wrap (s5+(1:Int)))))
 else
 some (.inr (.inr s4))
def gG(n:Nat)(a1:ej)(a2:A7):Option ((List ah)×Int):=
 (jX n a1).bind fun v3=>
 if (!v3)=true then
  some ([],(1:Int))
 else
 (iter n (fun s=>eN n a1 a2 s.1 s.2) ([],(0:Int))).bind fun t4=>match t4 with
 |(.inl u5)=>
  some u5
 |(.inr u6)=>
  some (u6,(0:Int))
def fX(_:Nat)(a1:(List Int))(s2:Int):Option (Int⊕(Bool⊕Unit)):=
 if (decide (s2<(a1.length:Int)))=true then
  (ix a1 s2).bind fun v3=>
  ((if (!(decide (v3<(0:Int))))=true then ix a1 s2 else some default)).bind fun v4=>
  if ((decide (v3<(0:Int)))||(decide ((65536:Int)≤v4)))=true then
   some (.inr (.inl false))
  else
  some (.inl (IntKind.i64.wrap (s2+(1:Int))))
 else
 some (.inr (.inr ()))
def bV(n:Nat)(a1:(List Int)):Option Bool:=
 (iter n (fun s=>fX n a1 s) (0:Int)).bind fun t2=>match t2 with
 |(.inl u3)=>
  some u3
 |(.inr _)=>
  ((if ((decide ((a1.length:Int)≤(128:Int)))&&(!(decide ((a1.length:Int)=(0:Int)))))=true then ix a1 (IntKind.i64.wrap ((a1.length:Int)-(1:Int))) else some default)).bind fun v5=>
  some ((decide ((a1.length:Int)≤(128:Int)))&&((decide ((a1.length:Int)=(0:Int)))||(!decide (v5=(0:Int)))))
def jD(_:Nat)(a1:(List Int))(s2:Int):Option (Int⊕Int):=
 ((if (decide ((0:Int)<s2))=true then ix a1 (IntKind.i64.wrap (s2-(1:Int))) else some default)).bind fun v3=>
 if ((decide ((0:Int)<s2))&&(decide (v3=(0:Int))))=true then
  some (.inl (IntKind.i64.wrap (s2-(1:Int))))
 else
 some (.inr s2)
def fM(n:Nat)(a1:(List Int)):Option (List Int):=
 (iter n (fun s=>jD n a1 s) (a1.length:Int)).bind fun t2=>
 (oR a1 (0:Int) t2).bind fun v3=>
 (app 8 (([]:List Int):List Int) v3).bind fun v4=>
 some v4
def iH(_:Nat)(a1:(List Int))(a2:(List Int))(s4:Int)(s6:Int)(s7:Int)(s8:(List Int)):Option ((Int×Int×(List Int))⊕(Int×(List Int))):=
 if (decide (s7<(a2.length:Int)))=true then
  (ix s8 (IntKind.i64.wrap (s4+s7))).bind fun _=>
  (ix s8 (IntKind.i64.wrap (s4+s7))).bind fun v10=>
  (ix a1 s4).bind fun v11=>
  (ix a2 s7).bind fun v12=>
  (rem (IntKind.i64.wrap (s6+(IntKind.i64.wrap (v10+(IntKind.i64.wrap (v11*v12)))))) (65536:Int)).bind fun qs=>
  (ix s8 (IntKind.i64.wrap (s4+s7))).bind fun _=>
  (ku s8 (IntKind.i64.wrap (s4+s7)) qs).bind fun uM=>
  (quo .i64 (IntKind.i64.wrap (s6+(IntKind.i64.wrap (v10+(IntKind.i64.wrap (v11*v12)))))) (65536:Int)).bind fun xB=>
  some (.inl (xB,(IntKind.i64.wrap (s7+(1:Int))),uM))
 else
 some (.inr (s6,s8))
def iG(n:Nat)(a1:(List Int))(a2:(List Int))(s4:Int)(s5:(List Int)):Option ((Int×(List Int))⊕(List Int)):=
 if (decide (s4<(a1.length:Int)))=true then
  (iter n (fun s=>iH n a1 a2 s4 s.1 s.2.1 s.2.2) ((0:Int),(0:Int),s5)).bind fun t6=>
  (ix t6.2 (IntKind.i64.wrap (s4+(a2.length:Int)))).bind fun _=>
  (ku t6.2 (IntKind.i64.wrap (s4+(a2.length:Int))) t6.1).bind fun v8=>
  some (.inl ((IntKind.i64.wrap (s4+(1:Int))),v8))
 else
 some (.inr s5)
def j7(n:Nat)(a1:(List Int))(a2:(List Int)):Option (List Int):=
 (IN 8 (IntKind.i64.wrap ((a1.length:Int)+(a2.length:Int))) ((0:Int):Int)).bind fun v3=>
 (iter n (fun s=>iG n a1 a2 s.1 s.2) ((0:Int),v3)).bind fun t4=>
 (fM n t4).bind fun v5=>
 some v5
def gF(n:Nat)(a1:(List Int)):Option ((List Int)×Int):=
 (fM n a1).bind fun v2=>
 if (decide ((128:Int)<(v2.length:Int)))=true then
  some ([],(3:Int))
 else
 some (v2,(0:Int))
def kN(n:Nat)(a1:(List Int))(a2:(List Int)):Option ((List Int)×Int):=
 (bV n a1).bind fun v3=>
 ((if (!(!v3))=true then bV n a2 else some default)).bind fun v4=>
 if ((!v3)||(!v4))=true then
  some ([],(1:Int))
 else
 (j7 n a1 a2).bind fun v5=>
 (gF n v5).bind fun v6=>
 some (v6.1,v6.2)
def gm(_:Nat)(a1:(List Int))(a2:(List Int))(s3:Int):Option (Int⊕(Int⊕Unit)):=
 if (decide ((0:Int)≤s3))=true then
  (ix a1 s3).bind fun v4=>
  (ix a2 s3).bind fun v5=>
  if (decide (v4<v5))=true then
   some (.inr (.inl (-1:Int)))
  else
  (ix a1 s3).bind fun v6=>
  (ix a2 s3).bind fun v7=>
  if (decide (v7<v6))=true then
   some (.inr (.inl (1:Int)))
  else
  some (.inl (IntKind.i64.wrap (s3-(1:Int))))
 else
 some (.inr (.inr ()))
def fF(n:Nat)(a1:(List Int))(a2:(List Int)):Option Int:=
 if (!decide ((a1.length:Int)=(a2.length:Int)))=true then
  if (decide ((a1.length:Int)<(a2.length:Int)))=true then
   some (-1:Int)
  else
  some (1:Int)
 else
 (iter n (fun s=>gm n a1 a2 s) (IntKind.i64.wrap ((a1.length:Int)-(1:Int)))).bind fun t3=>match t3 with
 |(.inl u4)=>
  some u4
 |(.inr _)=>
  some (0:Int)
def kP(_:Nat)(a1:(List Int))(a2:(List Int))(s3:(List Int))(s4:Int)(s5:Int):Option (((List Int)×Int×Int)⊕((List Int)×Int)):=
 if ((decide (s5<(a1.length:Int)))||(decide (s5<(a2.length:Int))))=true then
  (
   if (decide (s5<(a1.length:Int)))=true then
    (ix a1 s5).bind fun v6=>
    some (IntKind.i64.wrap (s4+v6))
   else
   some s4:Option Int).bind fun t7=>
  (
   if (decide (s5<(a2.length:Int)))=true then
    (ix a2 s5).bind fun v8=>
    some (IntKind.i64.wrap (t7+v8))
   else
   some t7:Option Int).bind fun t9=>
  (rem t9 (65536:Int)).bind fun v10=>
  (app 8 s3 ([v10]:List Int)).bind fun v11=>
  (quo .i64 t9 (65536:Int)).bind fun v12=>
  some (.inl (v11,v12,(IntKind.i64.wrap (s5+(1:Int)))))
 else
 some (.inr (s3,s4))
def kO(n:Nat)(a1:(List Int))(a2:(List Int)):Option (List Int):=
 (iter n (fun s=>kP n a1 a2 s.1 s.2.1 s.2.2) ([],(0:Int),(0:Int))).bind fun t3=>
 (app 8 t3.1 ([t3.2]:List Int)).bind fun v4=>
 (fM n v4).bind fun v5=>
 some v5
def jE(_:Nat)(a1:(List Int))(s3:Int)(s4:(List Int)):Option ((Int×(List Int))⊕(List Int)):=
 if (decide (s3<(a1.length:Int)))=true then
  (
   (ix a1 s3).bind fun v5=>
   (quo .i64 v5 (2:Int)).bind fun v6=>
   (ix s4 s3).bind fun _=>
   (ku s4 s3 v6).bind fun v8=>
   ((if (decide ((IntKind.i64.wrap (s3+(1:Int)))<(a1.length:Int)))=true then ix a1 (IntKind.i64.wrap (s3+(1:Int))) else some default)).bind fun v9=>
   ((if (decide ((IntKind.i64.wrap (s3+(1:Int)))<(a1.length:Int)))=true then rem v9 (2:Int) else some default)).bind fun v10=>
   if ((decide ((IntKind.i64.wrap (s3+(1:Int)))<(a1.length:Int)))&&(decide (v10=(1:Int))))=true then
    (ix v8 s3).bind fun _=>
    (ix v8 s3).bind fun v12=>
    (ix v8 s3).bind fun _=>
    (ku v8 s3 (IntKind.i64.wrap (v12+(32768:Int)))).bind fun uH=>
    some uH
   else
   some v8:Option (List Int)).bind fun t15=>
  some (.inl ((IntKind.i64.wrap (s3+(1:Int))),t15))
 else
 some (.inr s4)
def mZ(n:Nat)(a1:(List Int)):Option (List Int):=
 (IN 8 (a1.length:Int) ((0:Int):Int)).bind fun v2=>
 (iter n (fun s=>jE n a1 s.1 s.2) ((0:Int),v2)).bind fun t3=>
 (fM n t3).bind fun v4=>
 some v4
def jF(_:Nat)(a1:(List Int))(a2:(List Int))(s3:(List Int))(s4:Int)(s5:Int):Option (((List Int)×Int×Int)⊕(List Int)):=
 if (decide (s5<(a1.length:Int)))=true then
  (ix a1 s5).bind fun v6=>
  (
   if (decide (s5<(a2.length:Int)))=true then
    (ix a2 s5).bind fun v7=>
    some (IntKind.i64.wrap ((IntKind.i64.wrap (v6-s4))-v7))
   else
   some (IntKind.i64.wrap (v6-s4)):Option Int).bind fun t8=>
  (
   if (decide (t8<(0:Int)))=true then
    some ((1:Int),(IntKind.i64.wrap (t8+(65536:Int))))
   else
   some ((0:Int),t8):Option (Int×Int)).bind fun t9=>
  (app 8 s3 ([t9.2]:List Int)).bind fun v10=>
  some (.inl (v10,t9.1,(IntKind.i64.wrap (s5+(1:Int)))))
 else
 some (.inr s3)
def m_(n:Nat)(a1:(List Int))(a2:(List Int)):Option (List Int):=
 (iter n (fun s=>jF n a1 a2 s.1 s.2.1 s.2.2) ([],(0:Int),(0:Int))).bind fun t3=>
 (fM n t3).bind fun v4=>
 some v4
def gS(n:Nat)(a1:(List Int))(s3:(List Int))(s4:Int):Option (((List Int)×Int)⊕((List Int)×Int)):=
 (fF n s3 a1).bind fun v5=>
 if (decide (v5≤(0:Int)))=true then
  (kO n s3 s3).bind fun v6=>
  some (.inl (v6,(IntKind.i64.wrap (s4+(1:Int)))))
 else
 some (.inr (s3,s4))
def gT(n:Nat)(t3:((List Int)×Int))(s4:(List Int))(s5:(List Int))(s6:(List Int))(s7:Int):Option (((List Int)×(List Int)×(List Int)×Int)⊕((List Int)×(List Int))):=
 if (decide (s7<t3.2))=true then
  (
   (mZ n s5).bind fun v8=>
   (kO n s6 s6).bind fun v9=>
   (fF n v8 s4).bind fun v10=>
   if (decide (v10≤(0:Int)))=true then
    (m_ n s4 v8).bind fun v11=>
    (kO n v9 ([(1:Int)]:List Int)).bind fun v12=>
    some (v11,v8,v12)
   else
   some (s4,v8,v9):Option ((List Int)×(List Int)×(List Int))).bind fun t13=>
  some (.inl (t13.1,t13.2.1,t13.2.2,(IntKind.i64.wrap (s7+(1:Int)))))
 else
 some (.inr (s4,s6))
def iI(n:Nat)(a1:(List Int))(a2:(List Int)):Option ((List Int)×(List Int)):=
 (iter n (fun s=>gS n a1 s.1 s.2) (a2,(0:Int))).bind fun t3=>
 (iter n (fun s=>gT n t3 s.1 s.2.1 s.2.2.1 s.2.2.2) (a1,t3.1,[],(0:Int))).bind fun t4=>
 some (t4.2,t4.1)
def kQ(n:Nat)(s5:(List Int))(s6:(List Int)):Option (((List Int)×(List Int))⊕(List Int)):=
 if (decide ((0:Int)<(s6.length:Int)))=true then
  (iI n s5 s6).bind fun v7=>
  some (.inl (s6,v7.2))
 else
 some (.inr s5)
def oq(n:Nat)(a1:(List Int))(a2:(List Int)):Option ((List Int)×Int):=
 (bV n a1).bind fun v3=>
 ((if (!(!v3))=true then bV n a2 else some default)).bind fun v4=>
 if ((!v3)||(!v4))=true then
  some ([],(1:Int))
 else
 (iter n (fun s=>kQ n s.1 s.2) (a1,a2)).bind fun t5=>
 (app 8 (([]:List Int):List Int) t5).bind fun v6=>
 some (v6,(0:Int))
def iJ(n:Nat)(a1:(List Int))(a2:(List Int)):Option ((List Int)×(List Int)×Int):=
 (bV n a1).bind fun v3=>
 ((if (!(!v3))=true then bV n a2 else some default)).bind fun v4=>
 if (((!v3)||(!v4))||(decide ((a2.length:Int)=(0:Int))))=true then
  some ([],[],(1:Int))
 else
 (iI n a1 a2).bind fun v5=>
 some (v5.1,v5.2,(0:Int))
def gn(n:Nat)(a1:(List ah))(s3:(List Int))(s4:(List Int))(s5:Int):Option (((List Int)×(List Int)×Int)⊕((List Int)×(List Int))):=
 if (decide (s5<(a1.length:Int)))=true then
  (ix a1 s5).bind fun v6=>
  (kN n s3 ([v6.aS]:List Int)).bind fun v7=>
  (ix a1 s5).bind fun v8=>
  (kN n s4 ([v8.aU]:List Int)).bind fun v9=>
  some (.inl (v7.1,v9.1,(IntKind.i64.wrap (s5+(1:Int)))))
 else
 some (.inr (s3,s4))
def jI(n:Nat)(a1:(List ah)):Option ((List Int)×(List Int)×Int):=
 (j9 n a1).bind fun v2=>
 if (!v2)=true then
  some ([],[],(1:Int))
 else
 (iter n (fun s=>gn n a1 s.1 s.2.1 s.2.2) (([(1:Int)]:List Int),([(1:Int)]:List Int),(0:Int))).bind fun t3=>
 (oq n t3.1 t3.2).bind fun v4=>
 (iJ n t3.1 v4.1).bind fun v5=>
 (iJ n t3.2 v4.1).bind fun v6=>
 some (v5.1,v6.1,(0:Int))
def iK(n:Nat)(a1:(List Int))(a2:Int)(s4:(List Int))(s5:Int):Option (((List Int)×Int)⊕(((List Int)×Int)⊕(List Int))):=
 if (decide (s5<a2))=true then
  (kN n s4 a1).bind fun v6=>
  if (!decide (v6.2=(0:Int)))=true then
   some (.inr (.inl ([],v6.2)))
  else
  some (.inl (v6.1,(IntKind.i64.wrap (s5+(1:Int)))))
 else
 some (.inr (.inr s4))
def j8(n:Nat)(a1:(List Int))(a2:Int):Option ((List Int)×Int):=
 (bV n a1).bind fun v3=>
 if (!v3)=true then
  some ([],(1:Int))
 else
 if ((decide (a2<(0:Int)))||(decide ((1000:Int)<a2)))=true then
  some ([],(2:Int))
 else
 (iter n (fun s=>iK n a1 a2 s.1 s.2) (([(1:Int)]:List Int),(0:Int))).bind fun t4=>match t4 with
 |(.inl u5)=>
  some u5
 |(.inr u6)=>
  some (u6,(0:Int))
def jG(_:Nat)(s4:Int)(s5:Int):Option ((Int×Int)⊕Int):=
 if (decide ((0:Int)<s5))=true then
  (quo .i64 s5 (2:Int)).bind fun v6=>
  some (.inl ((IntKind.i64.wrap (s4+(1:Int))),v6))
 else
 some (.inr s4)
def lv(n:Nat)(a1:(List Int)):Option Int:=
 (bV n a1).bind fun v2=>
 if ((!v2)||(decide ((a1.length:Int)=(0:Int))))=true then
  some (0:Int)
 else
 (ix a1 (IntKind.i64.wrap ((a1.length:Int)-(1:Int)))).bind fun v3=>
 (iter n (fun s=>jG n s.1 s.2) ((IntKind.i64.wrap ((16:Int)*(IntKind.i64.wrap ((a1.length:Int)-(1:Int))))),v3)).bind fun t4=>
 some t4
def fR(n:Nat)(a1:(List Int))(a2:Int):Option ((List Int)×Int):=
 (bV n a1).bind fun v3=>
 if (!v3)=true then
  some ([],(1:Int))
 else
 if ((decide (a2<(0:Int)))||(decide ((2047:Int)<a2)))=true then
  some ([],(2:Int))
 else
 (quo .i64 a2 (16:Int)).bind fun v4=>
 (IN 8 v4 ((0:Int):Int)).bind fun v5=>
 (rem a2 (16:Int)).bind fun v6=>
 (E6 .i64 (1:Int) v6).bind fun v7=>
 (j7 n a1 ([v7]:List Int)).bind fun v8=>
 (app 8 v5 v8).bind fun v9=>
 (gF n v9).bind fun v10=>
 some (v10.1,v10.2)
def jC(n:Nat)(a1:(List Int))(a2:(List Int)):Option Int:=
 (bV n a1).bind fun v3=>
 ((if (!(!v3))=true then bV n a2 else some default)).bind fun v4=>
 if ((!v3)||(!v4))=true then
  some (0:Int)
 else
 (fF n a1 a2).bind fun v5=>
 some v5
def kS(n:Nat)(a1:(List ah)):Option (Int×Int):=
 (jI n a1).bind fun v2=>
 if (!decide (v2.2.2=(0:Int)))=true then
  some ((0:Int),v2.2.2)
 else
 (j8 n v2.1 (8:Int)).bind fun v3=>
 (j8 n v2.2.1 (8:Int)).bind fun v4=>
 (lv n v3.1).bind fun v5=>
 (lv n v4.1).bind fun v6=>
 (
  if (decide ((0:Int)<(IntKind.i64.wrap (v5-v6))))=true then
   (fR n v4.1 (IntKind.i64.wrap (v5-v6))).bind fun v7=>
   some (v3.1,v7.1)
  else
  (fR n v3.1 (IntKind.i64.wrap (-(IntKind.i64.wrap (v5-v6))))).bind fun v8=>
  some (v8.1,v4.1):Option ((List Int)×(List Int))).bind fun t9=>
 (
  (jC n t9.1 t9.2).bind fun v10=>
  if (decide (v10<(0:Int)))=true then
   some (IntKind.i64.wrap ((IntKind.i64.wrap (v5-v6))-(1:Int)))
  else
  some (IntKind.i64.wrap (v5-v6)):Option Int).bind fun t11=>
 some (t11,(0:Int))
def kT(n:Nat)(a1:ej)(a2:A7):Option (Int×Int):=
 (gG n a1 a2).bind fun v3=>
 if (!decide (v3.2=(0:Int)))=true then
  some ((0:Int),v3.2)
 else
 (kS n v3.1).bind fun v4=>
 some (v4.1,v4.2)
def nY(n:Nat)(a1:(List af))(a2:Int)(a3:Int):Option (A7×Int×Bool):=
 (jt n a1 a2).bind fun v4=>
 (jt n a1 a3).bind fun v5=>
 if ((!v4.2)||(!v5.2))=true then
  some ((⟨(0:Int),(0:Int),(0:Int),(0:Int),(0:Int),(0:Int),(0:Int)⟩:A7),(0:Int),false)
 else
 (jS n v4.1 v5.1).bind fun v6=>
 (nX n).bind fun v7=>
 (kT n v7 v6.1).bind fun v8=>
 some (v6.1,v8.1,true)
def mg(n:Nat)(a1:(List af))(a2:(List ae))(a3:aB):Option Bool:=
 if (decide (a3.fA=a3.fB))=true then
  some false
 else
 if a3.mD=true then
  (pe n a2 a3.fA a3.fB).bind fun v4=>
  some ((v4&&(decide (a3.bD=(⟨(0:Int),(0:Int),(0:Int),(0:Int),(0:Int),(0:Int),(0:Int)⟩:A7))))&&(decide (a3.fO=(0:Int))))
 else
 (nY n a1 a3.fA a3.fB).bind fun v5=>
 some (((v5.2.2&&(decide (v5.1=a3.bD)))&&(decide (v5.2.1=a3.fO)))&&(decide ((0:Int)<v5.2.1)))
def eX(n:Nat)(a1:(List af))(s6:Int):Option (Int⊕(Int⊕Unit)):=
 if (decide (s6<(a1.length:Int)))=true then
  (oR a1 (0:Int) s6).bind fun v7=>
  (ix a1 s6).bind fun v8=>
  (jt n v7 v8.nU).bind fun v9=>
  ((if (!v9.2)=true then ix a1 s6 else some default)).bind fun v10=>
  ((if (!v9.2)=true then ib n v10 else some default)).bind fun v11=>
  if (v9.2||(!v11))=true then
   some (.inr (.inl (1:Int)))
  else
  some (.inl (IntKind.i64.wrap (s6+(1:Int))))
 else
 some (.inr (.inr ()))
def gb(n:Nat)(a1:(List af))(a2:(List ae))(a5:(List aB))(kp:Int)(i_:Int):Option ((Int×Int)⊕(Int⊕Int)):=
 if (decide (i_<(a5.length:Int)))=true then
  (ix a5 i_).bind fun v12=>
  ((if (!(!decide (v12.fA=kp)))=true then ix a5 i_ else some default)).bind fun qs=>
  ((if (!(!decide (v12.fA=kp)))=true then mg n a1 a2 qs else some default)).bind fun uH=>
  if ((!decide (v12.fA=kp))||(!uH))=true then
   some (.inr (.inl (17:Int)))
  else
  (ix a5 i_).bind fun uM=>
  some (.inl (uM.fB,(IntKind.i64.wrap (i_+(1:Int)))))
 else
 some (.inr (.inr kp))
def ke(n:Nat)(a1:(List af))(a2:(List ae))(a3:Int)(a4:Int)(a5:(List aB)):Option Int:=
 (iter n (fun s=>eX n a1 s) (0:Int)).bind fun t6=>match t6 with
 |(.inl u7)=>
  some u7
 |(.inr _)=>
  (kd n a2).bind fun v9=>
  if (!v9)=true then
   some (1:Int)
  else
  if ((decide (a3=a4))&&(decide ((0:Int)<(a5.length:Int))))=true then
   some (17:Int)
  else
  (iter n (fun s=>gb n a1 a2 a5 s.1 s.2) (a3,(0:Int))).bind fun t10=>match t10 with
  |(.inl ZT)=>
   some ZT
  |(.inr W2)=>
   if (!decide (W2=a4))=true then
    some (17:Int)
   else
   some (0:Int)
def k8(_:Nat)(v6:(List (List UInt8)))(s7:Int)(s8:Int):Option ((Int×Int)⊕(Bool⊕Int)):=
 if ((decide (s8<(v6.length:Int)))&&(decide (s8<(300:Int))))=true then
  (ix v6 s8).bind fun v9=>
  if (decide ((110:Int)<(v9.length:Int)))=true then
   some (.inr (.inl false))
  else
  (ix v6 s8).bind fun v10=>
  some (.inl ((IntKind.i64.wrap (s7+(v10.length:Int))),(IntKind.i64.wrap (s8+(1:Int)))))
 else
 some (.inr (.inr s7))
def oF(n:Nat)(a1:af):Option Bool:=
 (app 16 (([a1.aM]:List (List UInt8)):List (List UInt8)) a1.bf).bind fun v2=>
 (app 16 v2 a1.bN).bind fun v3=>
 (app 16 v3 a1.bO).bind fun v4=>
 (app 16 v4 a1.aw).bind fun v5=>
 (app 16 v5 a1.bh).bind fun v6=>
 (iter n (fun s=>k8 n v6 s.1 s.2) ((0:Int),(0:Int))).bind fun t7=>match t7 with
 |(.inl u8)=>
  some u8
 |(.inr u9)=>
  some ((((decide ((v6.length:Int)≤(80:Int)))||((decide ((200:Int)≤(v6.length:Int)))&&(decide ((v6.length:Int)≤(220:Int)))))&&(decide (u9≤(2000:Int))))&&(decide ((a1.ba.length:Int)≤(25:Int))))
def dI(n:Nat)(a1:(List af))(s3:Int):Option (Int⊕(Bool⊕Unit)):=
 if (decide (s3<(a1.length:Int)))=true then
  (ix a1 s3).bind fun v4=>
  (oF n v4).bind fun v5=>
  if (!v5)=true then
   some (.inr (.inl false))
  else
  some (.inl (IntKind.i64.wrap (s3+(1:Int))))
 else
 some (.inr (.inr ()))
def dv(n:Nat)(a1:(List af))(a2:(List ae)):Option Bool:=
 (iter n (fun s=>dI n a1 s) (0:Int)).bind fun t3=>match t3 with
 |(.inl u4)=>
  some u4
 |(.inr _)=>
  some ((decide ((a1.length:Int)≤(7:Int)))&&(decide ((a2.length:Int)≤(10:Int))))
def qe(_:Nat)(a1:af):Option af:=
 some a1
def gJ(n:Nat)(a1:(List af))(s2:(List af))(s3:Int):Option (((List af)×Int)⊕(List af)):=
 if (decide (s3<(a1.length:Int)))=true then
  (ix a1 s3).bind fun v4=>
  (qe n v4).bind fun v5=>
  (app 168 s2 ([v5]:List af)).bind fun v6=>
  some (.inl (v6,(IntKind.i64.wrap (s3+(1:Int)))))
 else
 some (.inr s2)
def lH(n:Nat)(a1:(List af)):Option (List af):=
 (iter n (fun s=>gJ n a1 s.1 s.2) ([],(0:Int))).bind fun t2=>
 some t2
def iY(_:Nat)(a1:(List aB))(s2:(List aB))(s3:Int):Option (((List aB)×Int)⊕(List aB)):=
 if (decide (s3<(a1.length:Int)))=true then
  (ix a1 s3).bind fun v4=>
  (app 88 s2 ([v4]:List aB)).bind fun v5=>
  some (.inl (v5,(IntKind.i64.wrap (s3+(1:Int)))))
 else
 some (.inr s2)
def g_(n:Nat)(a1:(List aB)):Option (List aB):=
 (iter n (fun s=>iY n a1 s.1 s.2) ([],(0:Int))).bind fun t2=>
 some t2
def gK(_:Nat)(a1:(List aB))(s2:Int)(s3:(List aB)):Option ((Int×(List aB))⊕(List aB)):=
 if (decide (s2<(a1.length:Int)))=true then
  (ix a1 s2).bind fun v4=>
  (app 88 s3 ([v4]:List aB)).bind fun v5=>
  some (.inl ((IntKind.i64.wrap (s2+(1:Int))),v5))
 else
 some (.inr s3)
def nu(n:Nat)(a1:(List aB)):Option (List aB):=
 (iter n (fun s=>gK n a1 s.1 s.2) ((0:Int),([]:List aB))).bind fun t2=>
 some t2
def bM(n:Nat)(a2:(List ae))(a3:mV)(v5:(List af))(i_:Int):Option (Int⊕(Bool⊕Unit)):=
 if (decide (i_<(a3.b_.length:Int)))=true then
  (oR a3.b_ (0:Int) i_).bind fun v12=>
  (g_ n v12).bind fun qs=>
  (app 88 (([]:List aB):List aB) qs).bind fun uH=>
  (oR a3.b_ (IntKind.i64.wrap (i_+(1:Int))) (a3.b_.length:Int)).bind fun uM=>
  (g_ n uM).bind fun xB=>
  (app 88 uH xB).bind fun v17=>
  (cQ n v5 a2 a3.fA a3.fB v17).bind fun ES=>
  if (decide (ES=(0:Int)))=true then
   some (.inr (.inl false))
  else
  (nu n a3.b_).bind fun zz=>
  (ix zz i_).bind fun _=>
  (ix zz i_).bind fun v21=>
  (ix zz i_).bind fun _=>
  (ix zz i_).bind fun v23=>
  (ku zz i_ (⟨v23.fA,v23.fB,v23.mD,v23.bD,(IntKind.i64.wrap (v21.fO+(1:Int)))⟩:aB)).bind fun v24=>
  (cQ n v5 a2 a3.fA a3.fB v24).bind fun v25=>
  if (decide (v25=(0:Int)))=true then
   some (.inr (.inl false))
  else
  some (.inl (IntKind.i64.wrap (i_+(1:Int))))
 else
 some (.inr (.inr ()))
def bS(n:Nat)(a1:(List af))(a2:(List ae))(a3:mV):Option Bool:=
 ((if (!(!true))=true then dv n a1 a2 else some default)).bind fun v4=>
 if (((!true)||(!v4))||(decide ((10:Int)<(a3.b_.length:Int))))=true then
  some true
 else
 (lH n a1).bind fun v5=>
 (g_ n a3.b_).bind fun v6=>
 (cQ n v5 a2 a3.fA a3.fB v6).bind fun v7=>
 (ke n a1 a2 a3.fA a3.fB a3.b_).bind fun v8=>
 if (!decide (v7=v8))=true then
  some false
 else
 if (!decide (v7=(0:Int)))=true then
  some true
 else
 (g_ n a3.b_).bind fun v9=>
 (cQ n v5 a2 a3.fA (IntKind.i64.wrap (a3.fB+(1:Int))) v9).bind fun v10=>
 if (!decide (v10=(17:Int)))=true then
  some false
 else
 (iter n (fun s=>bM n a2 a3 v5 s) (0:Int)).bind fun t11=>match t11 with
 |(.inl W2)=>
  some W2
 |(.inr _)=>
  some true
end
end Go.Proofs.YtjdnbobilgamdaaGreatDoor.Ab
