/- Comparing rows. Conditions: none. -/
import Derived.Test.YtjdnbobilgamdaaGreatDoorOk
import Derived.Test.YtjdnbobilgamdaaGreatDoorMi
set_option maxRecDepth 100000
namespace Go.Proofs.YtjdnbobilgamdaaGreatDoor.Ab
open Go
attribute [local irreducible] AL AD AW tE zT lT
theorem RY{d:Nat}:vR Tryz.prog 37 A7.e (d+2):=vR.arr (f:=D.i) (lx:=A7.l) (d:=d+1) Tryz.underlying37 ⟨_,rfl,rfl⟩ En.i (.inl ⟨mK,fun _=>rfl⟩) (vR.int Tryz.underlying3) (fun _=>rfl) (fun _=>rfl) A7.Dn
theorem Zt:Pz Tryz.prog 37 A7.e:=Pz.of (by kernel_rfl) (RY (d:=9998)) (fun _=>rfl)
theorem WJ{d:Nat}:vR Tryz.prog 39 aB.e (d+3):=vR.st (d:=d+2) Tryz.underlying39 (by kernel_rfl) (fun _=>rfl) (fun x y=>⟨_,(.cons (ff:=D.i) (u:=x.fA) (v:=y.fA) (s:=1) (by decide) ⟨rfl,rfl,aaR rfl⟩ ⟨rfl,rfl,aaR rfl⟩ (.inl ⟨mK,fun _=>rfl⟩) ((vR.int Tryz.underlying3):vR Tryz.prog 3 _ (d+2)) (.cons (ff:=D.i) (u:=x.fB) (v:=y.fB) (s:=1) (by decide) ⟨rfl,rfl,aaR rfl⟩ ⟨rfl,rfl,aaR rfl⟩ (.inl ⟨mK,fun _=>rfl⟩) ((vR.int Tryz.underlying3):vR Tryz.prog 3 _ (d+2)) (.cons (ff:=D.bool) (u:=x.mD) (v:=y.mD) (s:=1) (by decide) ⟨rfl,rfl,aaR rfl⟩ ⟨rfl,rfl,aaR rfl⟩ (.inl ⟨sc4,fun _=>rfl⟩) ((vR.bool Tryz.underlying4):vR Tryz.prog 4 _ (d+2)) (.cons (ff:=A7.e) (u:=x.bD) (v:=y.bD) (s:=7) (by decide) ⟨rfl,rfl,aaR rfl⟩ ⟨rfl,rfl,aaR rfl⟩ (.inr ⟨QK,fun _=>rfl⟩) (RY:vR Tryz.prog 37 _ (d+2)) (.cons (ff:=D.i) (u:=x.fO) (v:=y.fO) (s:=1) (by decide) ⟨rfl,rfl,aaR rfl⟩ ⟨rfl,rfl,aaR rfl⟩ (.inl ⟨mK,fun _=>rfl⟩) ((vR.int Tryz.underlying3):vR Tryz.prog 3 _ (d+2)) .nil))))),by obtain⟨x0,x1,x2,x3,x4⟩:=x;obtain⟨y0,y1,y2,y3,y4⟩:=y;rw[abG];simp⟩)
theorem Zu:Pz Tryz.prog 39 aB.e:=Pz.of (by kernel_rfl) (WJ (d:=9997)) (fun _=>rfl)
theorem WL{d:Nat}:vR Tryz.prog 57 A7.e (d+2):=vR.arr (f:=D.i) (lx:=A7.l) (d:=d+1) Tryz.underlying57 ⟨_,rfl,rfl⟩ En.i (.inl ⟨mK,fun _=>rfl⟩) (vR.int Tryz.underlying3) (fun _=>rfl) (fun _=>rfl) A7.Dn
theorem WN:Pz Tryz.prog 57 A7.e:=Pz.of (by kernel_rfl) (WL (d:=9998)) (fun _=>rfl)
end Go.Proofs.YtjdnbobilgamdaaGreatDoor.Ab
