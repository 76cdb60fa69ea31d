/- Facts on the program. Conditions: none. -/
import Derived.Test.YtjdnbobilgamdaaGreatDoorAb11
import Derived.Test.YtjdnbobilgamdaaGreatDoorChecked
import Derived.Test.YtjdnbobilgamdaaGreatDoorRows
import Derived.ProofKit
import Derived.JoinedCond
set_option maxRecDepth 100000
namespace Go.Proofs.YtjdnbobilgamdaaGreatDoor.Ab
open Go Go.ChangeShapes Go.WideShapes Go.ChangeAt Go.RowKit
theorem Kt{H:Type}{ds gs:List (DataW H)}(h:Rows.uptoBulkAll (ds++gs)≤1048576):Rows.uptoBulkAll ds≤1048576:=by
 have key:∀ ds:List (DataW H),Rows.uptoBulkAll ds≤Rows.uptoBulkAll (ds++gs):=by
  intro ds
  induction ds with
  |nil=>simp[Rows.uptoBulkAll]
  |cons d ds ih=>simp only[adt,Rows.uptoBulkAll];omega
 exact abE (key ds) h
theorem tJ{H:Type}{d:DataW H}:∀ {ds:List (DataW H)},d∈ds→Rows.uptoBulkAll ds≤1048576→Rows.uptoBulk d≤1048576
 |[],hd,_=>by cases hd
 |e::ds,hd,h=>by
  simp only[Rows.uptoBulkAll] at h
  rcases abq.1 hd with rfl|hd
  ·omega
  ·exact tJ hd (by omega)
theorem On{H:Type}(d:DataW H):1≤Rows.uptoBulk d:=by
 cases d with
 |lit l=>cases l<;>simp[Rows.uptoBulk]
 |_=>simp[Rows.uptoBulk]
theorem GB{H:Type}:∀ ds:List (DataW H),ds.length≤Rows.uptoBulkAll ds
 |[]=>by simp
 |d::ds=>by have h1:=GB ds;have h2:=On d;simp only[abp,Rows.uptoBulkAll];omega
theorem smU{H:Type}:Sm 1048576 (fun d:DataW H=>Rows.uptoBulk d≤1048576) where
 str s h _:=by simp only[Rows.uptoBulk,abL] at h;have e:s.size=s.data.size:=rfl;omega
 sl es sp h _:=by
  simp only[Rows.uptoBulk] at h
  have h1:=GB es
  exact⟨by omega,fun e he=>tJ he (by omega)⟩
 ag ps h p hp:=by
  simp only[Rows.uptoBulk] at h
  exact tJ hp (by omega)
theorem own:ownKnob Tryz.prog.godebug=none:=by kernel_rfl
theorem laidOut:laidOutB Tryz.prog=true:=by kernel_rfl
end Go.Proofs.YtjdnbobilgamdaaGreatDoor.Ab
