/- Facts on the types of this program. What comes in, as plain data. Conditions: none. -/
import Derived.Test.YtjdnbobilgamdaaGreatDoorAl
import Derived.Test.YtjdnbobilgamdaaGreatDoorAb29
import Derived.Test.YtjdnbobilgamdaaGreatDoorProg
import Derived.Test.YtjdnbobilgamdaaGreatDoorAb11
import Derived.Test.YtjdnbobilgamdaaGreatDoorMi
import Derived.Test.YtjdnbobilgamdaaGreatDoorRows
import Derived.ProofKit
section
set_option maxRecDepth 100000
namespace Go.Proofs.YtjdnbobilgamdaaGreatDoor.Ab
open Go
theorem mo:Tryz.prog.follows .mixedOrders=true:=rfl
theorem cd{S:List Nat}:∀ l:List D,uN S (l.map V.d) (l.map V.d)
 |[]=>.nil
 |_::l=>.cons (.d rfl) (cd l)
theorem R1:Ag Tryz.prog 133 6:=⟨⟨_,Tryz.underlying133,rfl⟩,⟨_,rfl,rfl⟩⟩
theorem Xh:Ag Tryz.prog 134 42:=⟨⟨_,Tryz.underlying134,rfl⟩,⟨_,rfl,rfl⟩⟩
theorem Oj:Ag Tryz.prog 152 2:=⟨⟨_,Tryz.underlying152,rfl⟩,⟨_,rfl,rfl⟩⟩
theorem Oi:Ag Tryz.prog 155 42:=⟨⟨_,Tryz.underlying155,rfl⟩,⟨_,rfl,rfl⟩⟩
theorem QK:Ag Tryz.prog 37 7:=⟨⟨_,Tryz.underlying37,rfl⟩,⟨_,rfl,rfl⟩⟩
theorem TU:Ag Tryz.prog 39 11:=⟨⟨_,Tryz.underlying39,rfl⟩,⟨_,rfl,rfl⟩⟩
theorem QM:Ag Tryz.prog 44 8:=⟨⟨_,Tryz.underlying44,rfl⟩,⟨_,rfl,rfl⟩⟩
theorem QU:Ag Tryz.prog 50 8:=⟨⟨_,Tryz.underlying50,rfl⟩,⟨_,rfl,rfl⟩⟩
theorem K_:Ag Tryz.prog 57 7:=⟨⟨_,Tryz.underlying57,rfl⟩,⟨_,rfl,rfl⟩⟩
theorem W0:Ag Tryz.prog 59 11:=⟨⟨_,Tryz.underlying59,rfl⟩,⟨_,rfl,rfl⟩⟩
theorem WW:Ag Tryz.prog 85 2:=⟨⟨_,Tryz.underlying85,rfl⟩,⟨_,rfl,rfl⟩⟩
theorem Z0:Ag Tryz.prog 86 6:=⟨⟨_,Tryz.underlying86,rfl⟩,⟨_,rfl,rfl⟩⟩
theorem TS:Ag Tryz.prog 88 42:=⟨⟨_,Tryz.underlying88,rfl⟩,⟨_,rfl,rfl⟩⟩
theorem Z1:Ag Tryz.prog 93 3:=⟨⟨_,Tryz.underlying93,rfl⟩,⟨_,rfl,rfl⟩⟩
theorem JJ:Fd Tryz.prog 152 0 0:=⟨⟨_,_,Tryz.underlying152,rfl,rfl,_,rfl,by decide⟩⟩
theorem EH:Fd Tryz.prog 152 1 1:=⟨⟨_,_,Tryz.underlying152,rfl,rfl,_,rfl,by decide⟩⟩
theorem yD:Fd Tryz.prog 26 0 0:=⟨⟨_,_,Tryz.underlying26,rfl,rfl,_,rfl,by decide⟩⟩
theorem yE:Fd Tryz.prog 26 1 1:=⟨⟨_,_,Tryz.underlying26,rfl,rfl,_,rfl,by decide⟩⟩
theorem rK:Fd Tryz.prog 26 2 2:=⟨⟨_,_,Tryz.underlying26,rfl,rfl,_,rfl,by decide⟩⟩
theorem T5:Fd Tryz.prog 39 0 0:=⟨⟨_,_,Tryz.underlying39,rfl,rfl,_,rfl,by decide⟩⟩
theorem T6:Fd Tryz.prog 39 1 1:=⟨⟨_,_,Tryz.underlying39,rfl,rfl,_,rfl,by decide⟩⟩
theorem T7:Fd Tryz.prog 39 2 2:=⟨⟨_,_,Tryz.underlying39,rfl,rfl,_,rfl,by decide⟩⟩
theorem T8:Fd Tryz.prog 39 3 3:=⟨⟨_,_,Tryz.underlying39,rfl,rfl,_,rfl,by decide⟩⟩
theorem It:Fd Tryz.prog 39 4 10:=⟨⟨_,_,Tryz.underlying39,rfl,rfl,_,rfl,by decide⟩⟩
theorem T9:Fd Tryz.prog 44 0 0:=⟨⟨_,_,Tryz.underlying44,rfl,rfl,_,rfl,by decide⟩⟩
theorem T_:Fd Tryz.prog 44 1 1:=⟨⟨_,_,Tryz.underlying44,rfl,rfl,_,rfl,by decide⟩⟩
theorem T':Fd Tryz.prog 44 2 2:=⟨⟨_,_,Tryz.underlying44,rfl,rfl,_,rfl,by decide⟩⟩
theorem Ua:Fd Tryz.prog 44 3 3:=⟨⟨_,_,Tryz.underlying44,rfl,rfl,_,rfl,by decide⟩⟩
theorem Ub:Fd Tryz.prog 44 4 4:=⟨⟨_,_,Tryz.underlying44,rfl,rfl,_,rfl,by decide⟩⟩
theorem Uc:Fd Tryz.prog 44 5 5:=⟨⟨_,_,Tryz.underlying44,rfl,rfl,_,rfl,by decide⟩⟩
theorem Ud:Fd Tryz.prog 44 6 6:=⟨⟨_,_,Tryz.underlying44,rfl,rfl,_,rfl,by decide⟩⟩
theorem Ue:Fd Tryz.prog 44 7 7:=⟨⟨_,_,Tryz.underlying44,rfl,rfl,_,rfl,by decide⟩⟩
theorem Ol:Fd Tryz.prog 50 0 0:=⟨⟨_,_,Tryz.underlying50,rfl,rfl,_,rfl,by decide⟩⟩
theorem Uf:Fd Tryz.prog 50 1 1:=⟨⟨_,_,Tryz.underlying50,rfl,rfl,_,rfl,by decide⟩⟩
theorem Ug:Fd Tryz.prog 50 2 2:=⟨⟨_,_,Tryz.underlying50,rfl,rfl,_,rfl,by decide⟩⟩
theorem BZ:Fd Tryz.prog 50 3 3:=⟨⟨_,_,Tryz.underlying50,rfl,rfl,_,rfl,by decide⟩⟩
theorem Uh:Fd Tryz.prog 50 4 4:=⟨⟨_,_,Tryz.underlying50,rfl,rfl,_,rfl,by decide⟩⟩
theorem Ui:Fd Tryz.prog 50 5 5:=⟨⟨_,_,Tryz.underlying50,rfl,rfl,_,rfl,by decide⟩⟩
theorem Uj:Fd Tryz.prog 50 6 6:=⟨⟨_,_,Tryz.underlying50,rfl,rfl,_,rfl,by decide⟩⟩
theorem Uk:Fd Tryz.prog 50 7 7:=⟨⟨_,_,Tryz.underlying50,rfl,rfl,_,rfl,by decide⟩⟩
theorem Om:Fd Tryz.prog 59 0 0:=⟨⟨_,_,Tryz.underlying59,rfl,rfl,_,rfl,by decide⟩⟩
theorem Ul:Fd Tryz.prog 59 1 1:=⟨⟨_,_,Tryz.underlying59,rfl,rfl,_,rfl,by decide⟩⟩
theorem Um:Fd Tryz.prog 59 2 2:=⟨⟨_,_,Tryz.underlying59,rfl,rfl,_,rfl,by decide⟩⟩
theorem Un:Fd Tryz.prog 59 3 3:=⟨⟨_,_,Tryz.underlying59,rfl,rfl,_,rfl,by decide⟩⟩
theorem Uo:Fd Tryz.prog 59 4 10:=⟨⟨_,_,Tryz.underlying59,rfl,rfl,_,rfl,by decide⟩⟩
theorem Up:Fd Tryz.prog 85 0 0:=⟨⟨_,_,Tryz.underlying85,rfl,rfl,_,rfl,by decide⟩⟩
theorem Uq:Fd Tryz.prog 85 1 1:=⟨⟨_,_,Tryz.underlying85,rfl,rfl,_,rfl,by decide⟩⟩
theorem Od:Fd Tryz.prog 93 0 0:=⟨⟨_,_,Tryz.underlying93,rfl,rfl,_,rfl,by decide⟩⟩
theorem Oe:Fd Tryz.prog 93 1 1:=⟨⟨_,_,Tryz.underlying93,rfl,rfl,_,rfl,by decide⟩⟩
theorem Of:Fd Tryz.prog 93 2 2:=⟨⟨_,_,Tryz.underlying93,rfl,rfl,_,rfl,by decide⟩⟩
theorem Xg:Sc Tryz.prog 183:=⟨⟨_,Tryz.underlying183,rfl⟩,⟨_,rfl,rfl⟩⟩
theorem EJ:Sc Tryz.prog 24:=⟨⟨_,Tryz.underlying24,rfl⟩,⟨_,rfl,rfl⟩⟩
theorem mK:Sc Tryz.prog 3:=⟨⟨_,Tryz.underlying3,rfl⟩,⟨_,rfl,rfl⟩⟩
theorem sc4:Sc Tryz.prog 4:=⟨⟨_,Tryz.underlying4,rfl⟩,⟨_,rfl,rfl⟩⟩
theorem ZZ:Sc Tryz.prog 41:=⟨⟨_,Tryz.underlying41,rfl⟩,⟨_,rfl,rfl⟩⟩
theorem Ob:Sc Tryz.prog 42:=⟨⟨_,Tryz.underlying42,rfl⟩,⟨_,rfl,rfl⟩⟩
theorem sc5:Sc Tryz.prog 5:=⟨⟨_,Tryz.underlying5,rfl⟩,⟨_,rfl,rfl⟩⟩
theorem sc9:Sc Tryz.prog 9:=⟨⟨_,Tryz.underlying9,rfl⟩,⟨_,rfl,rfl⟩⟩
theorem R2:pt Tryz.prog 127 85 2 16:=⟨Tryz.underlying127,⟨_,_,rfl,rfl,rfl,rfl,rfl⟩⟩
theorem Xe:pt Tryz.prog 136 5 1 1:=⟨Tryz.underlying136,⟨_,_,rfl,rfl,rfl,rfl,rfl⟩⟩
theorem Dp:pt Tryz.prog 199 152 2 16:=⟨Tryz.underlying199,⟨_,_,rfl,rfl,rfl,rfl,rfl⟩⟩
theorem QV:pt Tryz.prog 22 50 8 168:=⟨Tryz.underlying22,⟨_,_,rfl,rfl,rfl,rfl,rfl⟩⟩
theorem Oc:pt Tryz.prog 23 93 3 24:=⟨Tryz.underlying23,⟨_,_,rfl,rfl,rfl,rfl,rfl⟩⟩
theorem xj:pt Tryz.prog 238 3 1 8:=⟨Tryz.underlying238,⟨_,_,rfl,rfl,rfl,rfl,rfl⟩⟩
theorem Ir:pt Tryz.prog 24 59 11 88:=⟨Tryz.underlying24,⟨_,_,rfl,rfl,rfl,rfl,rfl⟩⟩
theorem Xf:pt Tryz.prog 244 86 6 48:=⟨Tryz.underlying244,⟨_,_,rfl,rfl,rfl,rfl,rfl⟩⟩
theorem W1:pt Tryz.prog 29 44 8 168:=⟨Tryz.underlying29,⟨_,_,rfl,rfl,rfl,rfl,rfl⟩⟩
theorem EI:pt Tryz.prog 33 39 11 88:=⟨Tryz.underlying33,⟨_,_,rfl,rfl,rfl,rfl,rfl⟩⟩
theorem Og:pt Tryz.prog 41 9 1 16:=⟨Tryz.underlying41,⟨_,_,rfl,rfl,rfl,rfl,rfl⟩⟩
theorem ef:pt Tryz.prog 42 3 1 8:=⟨Tryz.underlying42,⟨_,_,rfl,rfl,rfl,rfl,rfl⟩⟩
theorem WY:pt Tryz.prog 64 42 1 24:=⟨Tryz.underlying64,⟨_,_,rfl,rfl,rfl,rfl,rfl⟩⟩
theorem N9:Zr Tryz.prog 133 [.int .i64 0,.int .i64 0,.int .i64 0,.int .i64 0,.int .i64 0,.int .i64 0]:=⟨⟨_,_,rfl,rfl,rfl,rfl⟩⟩
theorem Sb:Zr Tryz.prog 134 [.int .i64 0,.int .i64 0,.int .i64 0,.int .i64 0,.int .i64 0,.int .i64 0,.int .i64 0,.int .i64 0,.int .i64 0,.int .i64 0,.int .i64 0,.int .i64 0,.int .i64 0,.int .i64 0,.int .i64 0,.int .i64 0,.int .i64 0,.int .i64 0,.int .i64 0,.int .i64 0,.int .i64 0,.int .i64 0,.int .i64 0,.int .i64 0,.int .i64 0,.int .i64 0,.int .i64 0,.int .i64 0,.int .i64 0,.int .i64 0,.int .i64 0,.int .i64 0,.int .i64 0,.int .i64 0,.int .i64 0,.int .i64 0,.int .i64 0,.int .i64 0,.int .i64 0,.int .i64 0,.int .i64 0,.int .i64 0]:=⟨⟨_,_,rfl,rfl,rfl,rfl⟩⟩
theorem Sd:Zr Tryz.prog 152 [.int .i64 0,.int .i64 0]:=⟨⟨_,_,rfl,rfl,rfl,rfl⟩⟩
theorem JI:Zr Tryz.prog 155 [.int .i64 0,.int .i64 0,.int .i64 0,.int .i64 0,.int .i64 0,.int .i64 0,.int .i64 0,.int .i64 0,.int .i64 0,.int .i64 0,.int .i64 0,.int .i64 0,.int .i64 0,.int .i64 0,.int .i64 0,.int .i64 0,.int .i64 0,.int .i64 0,.int .i64 0,.int .i64 0,.int .i64 0,.int .i64 0,.int .i64 0,.int .i64 0,.int .i64 0,.int .i64 0,.int .i64 0,.int .i64 0,.int .i64 0,.int .i64 0,.int .i64 0,.int .i64 0,.int .i64 0,.int .i64 0,.int .i64 0,.int .i64 0,.int .i64 0,.int .i64 0,.int .i64 0,.int .i64 0,.int .i64 0,.int .i64 0]:=⟨⟨_,_,rfl,rfl,rfl,rfl⟩⟩
theorem RZ:Zr Tryz.prog 183 [.map none]:=⟨⟨_,_,rfl,rfl,rfl,rfl⟩⟩
theorem OZ:Zr Tryz.prog 3 [.int .i64 0]:=⟨⟨_,_,rfl,rfl,rfl,rfl⟩⟩
theorem N7:Zr Tryz.prog 37 [.int .i64 0,.int .i64 0,.int .i64 0,.int .i64 0,.int .i64 0,.int .i64 0,.int .i64 0]:=⟨⟨_,_,rfl,rfl,rfl,rfl⟩⟩
theorem N':Zr Tryz.prog 39 [.int .i64 0,.int .i64 0,.bool false,.int .i64 0,.int .i64 0,.int .i64 0,.int .i64 0,.int .i64 0,.int .i64 0,.int .i64 0,.int .i64 0]:=⟨⟨_,_,rfl,rfl,rfl,rfl⟩⟩
theorem WZ:Zr Tryz.prog 42 [.slice none 0 0]:=⟨⟨_,_,rfl,rfl,rfl,rfl⟩⟩
theorem Im:Zr Tryz.prog 44 [.int .i64 0,.slice none 0 0,.string ⟨#[]⟩,.slice none 0 0,.slice none 0 0,.slice none 0 0,.slice none 0 0,.slice none 0 0]:=⟨⟨_,_,rfl,rfl,rfl,rfl⟩⟩
theorem Ip:Zr Tryz.prog 50 [.int .i64 0,.slice none 0 0,.string ⟨#[]⟩,.slice none 0 0,.slice none 0 0,.slice none 0 0,.slice none 0 0,.slice none 0 0]:=⟨⟨_,_,rfl,rfl,rfl,rfl⟩⟩
theorem Iq:Zr Tryz.prog 57 [.int .i64 0,.int .i64 0,.int .i64 0,.int .i64 0,.int .i64 0,.int .i64 0,.int .i64 0]:=⟨⟨_,_,rfl,rfl,rfl,rfl⟩⟩
theorem TV:Zr Tryz.prog 59 [.int .i64 0,.int .i64 0,.bool false,.int .i64 0,.int .i64 0,.int .i64 0,.int .i64 0,.int .i64 0,.int .i64 0,.int .i64 0,.int .i64 0]:=⟨⟨_,_,rfl,rfl,rfl,rfl⟩⟩
theorem TT:Zr Tryz.prog 85 [.int .i64 0,.int .i64 0]:=⟨⟨_,_,rfl,rfl,rfl,rfl⟩⟩
theorem QR:Zr Tryz.prog 88 [.int .i64 0,.int .i64 0,.int .i64 0,.int .i64 0,.int .i64 0,.int .i64 0,.int .i64 0,.int .i64 0,.int .i64 0,.int .i64 0,.int .i64 0,.int .i64 0,.int .i64 0,.int .i64 0,.int .i64 0,.int .i64 0,.int .i64 0,.int .i64 0,.int .i64 0,.int .i64 0,.int .i64 0,.int .i64 0,.int .i64 0,.int .i64 0,.int .i64 0,.int .i64 0,.int .i64 0,.int .i64 0,.int .i64 0,.int .i64 0,.int .i64 0,.int .i64 0,.int .i64 0,.int .i64 0,.int .i64 0,.int .i64 0,.int .i64 0,.int .i64 0,.int .i64 0,.int .i64 0,.int .i64 0,.int .i64 0]:=⟨⟨_,_,rfl,rfl,rfl,rfl⟩⟩
theorem QL:Zr Tryz.prog 93 [.int .i64 0,.int .i64 0,.int .i64 0]:=⟨⟨_,_,rfl,rfl,rfl,rfl⟩⟩
theorem pG:Ba Tryz.prog 133 [.int .i64 0,.int .i64 0,.int .i64 0,.int .i64 0,.int .i64 0,.int .i64 0] 6 3 1:=⟨N9,Tryz.underlying133,⟨_,rfl,rfl⟩⟩
theorem N_:Ba Tryz.prog 134 [.int .i64 0,.int .i64 0,.int .i64 0,.int .i64 0,.int .i64 0,.int .i64 0,.int .i64 0,.int .i64 0,.int .i64 0,.int .i64 0,.int .i64 0,.int .i64 0,.int .i64 0,.int .i64 0,.int .i64 0,.int .i64 0,.int .i64 0,.int .i64 0,.int .i64 0,.int .i64 0,.int .i64 0,.int .i64 0,.int .i64 0,.int .i64 0,.int .i64 0,.int .i64 0,.int .i64 0,.int .i64 0,.int .i64 0,.int .i64 0,.int .i64 0,.int .i64 0,.int .i64 0,.int .i64 0,.int .i64 0,.int .i64 0,.int .i64 0,.int .i64 0,.int .i64 0,.int .i64 0,.int .i64 0,.int .i64 0] 7 133 6:=⟨Sb,Tryz.underlying134,⟨_,rfl,rfl⟩⟩
theorem TO:Ba Tryz.prog 37 [.int .i64 0,.int .i64 0,.int .i64 0,.int .i64 0,.int .i64 0,.int .i64 0,.int .i64 0] 7 3 1:=⟨N7,Tryz.underlying37,⟨_,rfl,rfl⟩⟩
theorem Oh:Ba Tryz.prog 57 [.int .i64 0,.int .i64 0,.int .i64 0,.int .i64 0,.int .i64 0,.int .i64 0,.int .i64 0] 7 3 1:=⟨Iq,Tryz.underlying57,⟨_,rfl,rfl⟩⟩
theorem R3:Bd Tryz.prog 152 [.int .i64 0,.int .i64 0] [(0,1),(1,1)]:=⟨Sd,⟨_,Tryz.underlying152,rfl⟩⟩
theorem Oa:Bd Tryz.prog 39 [.int .i64 0,.int .i64 0,.bool false,.int .i64 0,.int .i64 0,.int .i64 0,.int .i64 0,.int .i64 0,.int .i64 0,.int .i64 0,.int .i64 0] [(0,1),(1,1),(2,1),(3,7),(10,1)]:=⟨N',⟨_,Tryz.underlying39,rfl⟩⟩
theorem WQ:Bd Tryz.prog 44 [.int .i64 0,.slice none 0 0,.string ⟨#[]⟩,.slice none 0 0,.slice none 0 0,.slice none 0 0,.slice none 0 0,.slice none 0 0] [(0,1),(1,1),(2,1),(3,1),(4,1),(5,1),(6,1),(7,1)]:=⟨Im,⟨_,Tryz.underlying44,rfl⟩⟩
theorem WX:Bd Tryz.prog 50 [.int .i64 0,.slice none 0 0,.string ⟨#[]⟩,.slice none 0 0,.slice none 0 0,.slice none 0 0,.slice none 0 0,.slice none 0 0] [(0,1),(1,1),(2,1),(3,1),(4,1),(5,1),(6,1),(7,1)]:=⟨Ip,⟨_,Tryz.underlying50,rfl⟩⟩
theorem WV:Bd Tryz.prog 85 [.int .i64 0,.int .i64 0] [(0,1),(1,1)]:=⟨TT,⟨_,Tryz.underlying85,rfl⟩⟩
end Go.Proofs.YtjdnbobilgamdaaGreatDoor.Ab
end
section
set_option maxRecDepth 100000
namespace Go.Proofs.YtjdnbobilgamdaaGreatDoor.Ab
open Go Go.ChangeShapes Go.WideShapes Go.ChangeAt Go.RowKit
theorem small{n:Nat}(h:n≤maxLen):n≤9223372036854775807:=by unfold maxLen at h;omega
theorem VV:cB Tryz.prog 22=false:=by simp[cB,Tryz.underlying22]
theorem R4:cB Tryz.prog 50=true:=by simp[cB,Tryz.underlying50]
theorem ZU:cB Tryz.prog 3=false:=by simp[cB,Tryz.underlying3]
def EK(_:Nat)(x:Int):Prop:=(Lit.int .i64 x).wf=true
theorem oG{N:Nat}{c:List D}(h:Ty Tryz.prog N 3 c):∃ x:Int,c=D.cells (.int .i64 x)∧EK N x:=by
 obtain⟨x,rfl,hw⟩:=h.O8 Tryz.underlying3
 exact⟨x,rfl,hw⟩
theorem ZV:cB Tryz.prog 9=false:=by simp[cB,Tryz.underlying9]
def XZ(N:Nat)(x:List UInt8):Prop:=x.length≤N
theorem R5{N:Nat}{c:List D}(h:Ty Tryz.prog N 9 c):∃ x:(List UInt8),c=D.cells (.str x)∧XZ N x:=by
 obtain⟨x,rfl,hl⟩:=h.O9 Tryz.underlying9
 exact⟨x,rfl,hl⟩
def Lc(N:Nat)(x:(List (List UInt8))):Prop:=x.length≤N∧∀ y∈x,XZ N y
theorem B5{N:Nat}{c:List D}(h:Ty Tryz.prog N 41 c):∃ x:(List (List UInt8)),c=D.cells (.sl (x.map D.str))∧Lc N x:=by
 obtain⟨l,rfl,hl,hx⟩:=h.Ax Tryz.underlying41
 obtain⟨ys,rfl,hy⟩:=qy (f:=fun y:(List UInt8)=>(D.str y).cells) (S:=XZ N) (fun _ hc=>R5 hc) hx
 refine⟨ys,?_,by simpa using hl,hy⟩
 rw[acB,ZV]
 rfl
def W3(N:Nat)(x:(List Int)):Prop:=x.length≤N∧∀ y∈x,EK N y
theorem TX{N:Nat}{c:List D}(h:Ty Tryz.prog N 42 c):∃ x:(List Int),c=D.cells (.sl (x.map D.i))∧W3 N x:=by
 obtain⟨l,rfl,hl,hx⟩:=h.Ax Tryz.underlying42
 obtain⟨ys,rfl,hy⟩:=qy (f:=fun y:Int=>(D.i y).cells) (S:=EK N) (fun _ hc=>oG hc) hx
 refine⟨ys,?_,by simpa using hl,hy⟩
 rw[acB,ZU]
 rfl
def QX(N:Nat)(x:af):Prop:=EK N x.nU∧Lc N x.bf∧XZ N x.aM∧W3 N x.ba∧Lc N x.bN∧Lc N x.bO∧Lc N x.aw∧Lc N x.bh
theorem QY:partsOf Tryz.prog 50=[(0,3),(1,41),(2,9),(3,42),(4,41),(5,41),(6,41),(7,41)]:=by simp[partsOf,Tryz.underlying50]<;>rfl
theorem TY{N:Nat}{c:List D}(h:Ty Tryz.prog N 50 c):∃ x:af,c=D.cells (af.e x)∧QX N x:=by
 obtain⟨a0,_,h0,⟨a1,_,h1,⟨a2,_,h2,⟨a3,_,h3,⟨a4,_,h4,⟨a5,_,h5,⟨a6,_,h6,⟨a7,_,h7,rfl,rfl⟩,rfl⟩,rfl⟩,rfl⟩,rfl⟩,rfl⟩,rfl⟩,rfl⟩:=h.vW R4 QY
 obtain⟨x0,rfl,o0⟩:=oG h0
 obtain⟨x1,rfl,o1⟩:=B5 h1
 obtain⟨x2,rfl,o2⟩:=R5 h2
 obtain⟨x3,rfl,o3⟩:=TX h3
 obtain⟨x4,rfl,o4⟩:=B5 h4
 obtain⟨x5,rfl,o5⟩:=B5 h5
 obtain⟨x6,rfl,o6⟩:=B5 h6
 obtain⟨x7,rfl,o7⟩:=B5 h7
 exact⟨⟨x0,x1,x2,x3,x4,x5,x6,x7⟩,rfl,⟨o0,o1,o2,o3,o4,o5,o6,o7⟩⟩
def W4(N:Nat)(x:(List af)):Prop:=x.length≤N∧∀ y∈x,QX N y
theorem S5{N:Nat}{c:List D}(h:Ty Tryz.prog N 22 c):∃ x:(List af),c=D.cells (.sl (x.map af.e))∧W4 N x:=by
 obtain⟨l,rfl,hl,hx⟩:=h.Ax Tryz.underlying22
 obtain⟨ys,rfl,hy⟩:=qy (f:=fun y:af=>(af.e y).cells) (S:=QX N) (fun _ hc=>TY hc) hx
 refine⟨ys,?_,by simpa using hl,hy⟩
 rw[acB,R4]
 rfl
theorem VW:cB Tryz.prog 23=false:=by simp[cB,Tryz.underlying23]
theorem R6:cB Tryz.prog 93=true:=by simp[cB,Tryz.underlying93]
def TZ(N:Nat)(x:ae):Prop:=EK N x.ee∧EK N x.fA∧EK N x.fB
theorem QZ:partsOf Tryz.prog 93=[(0,3),(1,3),(2,3)]:=by simp[partsOf,Tryz.underlying93]<;>rfl
theorem T0{N:Nat}{c:List D}(h:Ty Tryz.prog N 93 c):∃ x:ae,c=D.cells (ae.e x)∧TZ N x:=by
 obtain⟨a0,_,h0,⟨a1,_,h1,⟨a2,_,h2,rfl,rfl⟩,rfl⟩,rfl⟩:=h.vW R6 QZ
 obtain⟨x0,rfl,o0⟩:=oG h0
 obtain⟨x1,rfl,o1⟩:=oG h1
 obtain⟨x2,rfl,o2⟩:=oG h2
 exact⟨⟨x0,x1,x2⟩,rfl,⟨o0,o1,o2⟩⟩
def W5(N:Nat)(x:(List ae)):Prop:=x.length≤N∧∀ y∈x,TZ N y
theorem S6{N:Nat}{c:List D}(h:Ty Tryz.prog N 23 c):∃ x:(List ae),c=D.cells (.sl (x.map ae.e))∧W5 N x:=by
 obtain⟨l,rfl,hl,hx⟩:=h.Ax Tryz.underlying23
 obtain⟨ys,rfl,hy⟩:=qy (f:=fun y:ae=>(ae.e y).cells) (S:=TZ N) (fun _ hc=>T0 hc) hx
 refine⟨ys,?_,by simpa using hl,hy⟩
 rw[acB,R6]
 rfl
theorem RD:cB Tryz.prog 26=true:=by simp[cB,Tryz.underlying26]
theorem R7:cB Tryz.prog 59=true:=by simp[cB,Tryz.underlying59]
def Ok4(_:Nat)(_:Bool):Prop:=True
theorem W6{N:Nat}{c:List D}(h:Ty Tryz.prog N 4 c):∃ x:Bool,c=D.cells (.bool x)∧Ok4 N x:=by
 obtain⟨x,rfl⟩:=h.LO Tryz.underlying4
 exact⟨x,rfl,trivial⟩
theorem W7:cB Tryz.prog 57=true:=by simp[cB,Tryz.underlying57]
def W8(N:Nat)(x:A7):Prop:=EK N x.e0∧EK N x.e1∧EK N x.e2∧EK N x.e3∧EK N x.e4∧EK N x.e5∧EK N x.e6
theorem Q0:partsOf Tryz.prog 57=[(0,3),(1,3),(2,3),(3,3),(4,3),(5,3),(6,3)]:=by simp[partsOf,Tryz.underlying57]<;>rfl
theorem T1{N:Nat}{c:List D}(h:Ty Tryz.prog N 57 c):∃ x:A7,c=D.cells (A7.e x)∧W8 N x:=by
 obtain⟨a0,_,h0,⟨a1,_,h1,⟨a2,_,h2,⟨a3,_,h3,⟨a4,_,h4,⟨a5,_,h5,⟨a6,_,h6,rfl,rfl⟩,rfl⟩,rfl⟩,rfl⟩,rfl⟩,rfl⟩,rfl⟩:=h.vW W7 Q0
 obtain⟨x0,rfl,o0⟩:=oG h0
 obtain⟨x1,rfl,o1⟩:=oG h1
 obtain⟨x2,rfl,o2⟩:=oG h2
 obtain⟨x3,rfl,o3⟩:=oG h3
 obtain⟨x4,rfl,o4⟩:=oG h4
 obtain⟨x5,rfl,o5⟩:=oG h5
 obtain⟨x6,rfl,o6⟩:=oG h6
 exact⟨⟨x0,x1,x2,x3,x4,x5,x6⟩,rfl,⟨o0,o1,o2,o3,o4,o5,o6⟩⟩
def T2(N:Nat)(x:aB):Prop:=EK N x.fA∧EK N x.fB∧Ok4 N x.mD∧W8 N x.bD∧EK N x.fO
theorem Q2:partsOf Tryz.prog 59=[(0,3),(1,3),(2,4),(3,57),(10,3)]:=by simp[partsOf,Tryz.underlying59]<;>rfl
theorem T3{N:Nat}{c:List D}(h:Ty Tryz.prog N 59 c):∃ x:aB,c=D.cells (aB.e x)∧T2 N x:=by
 obtain⟨a0,_,h0,⟨a1,_,h1,⟨a2,_,h2,⟨a3,_,h3,⟨a4,_,h4,rfl,rfl⟩,rfl⟩,rfl⟩,rfl⟩,rfl⟩:=h.vW R7 Q2
 obtain⟨x0,rfl,o0⟩:=oG h0
 obtain⟨x1,rfl,o1⟩:=oG h1
 obtain⟨x2,rfl,o2⟩:=W6 h2
 obtain⟨x3,rfl,o3⟩:=T1 h3
 obtain⟨x4,rfl,o4⟩:=oG h4
 exact⟨⟨x0,x1,x2,x3,x4⟩,rfl,⟨o0,o1,o2,o3,o4⟩⟩
def W9(N:Nat)(x:(List aB)):Prop:=x.length≤N∧∀ y∈x,T2 N y
theorem T4{N:Nat}{c:List D}(h:Ty Tryz.prog N 24 c):∃ x:(List aB),c=D.cells (.sl (x.map aB.e))∧W9 N x:=by
 obtain⟨l,rfl,hl,hx⟩:=h.Ax Tryz.underlying24
 obtain⟨ys,rfl,hy⟩:=qy (f:=fun y:aB=>(aB.e y).cells) (S:=T2 N) (fun _ hc=>T3 hc) hx
 refine⟨ys,?_,by simpa using hl,hy⟩
 rw[acB,R7]
 rfl
def W_(N:Nat)(x:mV):Prop:=EK N x.fA∧EK N x.fB∧W9 N x.b_
theorem Q3:partsOf Tryz.prog 26=[(0,3),(1,3),(2,24)]:=by simp[partsOf,Tryz.underlying26]<;>rfl
theorem S7{N:Nat}{c:List D}(h:Ty Tryz.prog N 26 c):∃ x:mV,c=D.cells (mV.e x)∧W_ N x:=by
 obtain⟨a0,_,h0,⟨a1,_,h1,⟨a2,_,h2,rfl,rfl⟩,rfl⟩,rfl⟩:=h.vW RD Q3
 obtain⟨x0,rfl,o0⟩:=oG h0
 obtain⟨x1,rfl,o1⟩:=oG h1
 obtain⟨x2,rfl,o2⟩:=T4 h2
 exact⟨⟨x0,x1,x2⟩,rfl,⟨o0,o1,o2⟩⟩
end Go.Proofs.YtjdnbobilgamdaaGreatDoor.Ab
end
