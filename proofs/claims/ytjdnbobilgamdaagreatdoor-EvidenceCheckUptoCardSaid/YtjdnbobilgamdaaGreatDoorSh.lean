/-
  DERIVED: THE SHELF's CONTRACTS AT THIS DUMP, IN PLAIN WORDS (tools/lay-plain.mjs out of 'YtjdnbobilgamdaaGreatDoorSh.lean', which tools/lay-shelf.mjs wrote): THE SAME DECLARATIONS UNDER THE SAME NAMES: 'import', 'namespace', 'open', 'def', 'theorem' AND NOTHING ELSE: no command of the shelf's: FOR A HAND-IN. Each laying: the table of numbers ('.._ren') and one theorem, a field a fact of the dump's own or the kernel's comparison; each contract: ONE APPLICATION.
-/
import Derived.Shelf.Strings.Builder1
import Derived.Shelf.Strings.Builder2
import Derived.Shelf.Strings.OnBuilder
import Derived.Shelf.Small.Bits
import Derived.Shelf.Strconv.Itoa0
import Derived.Shelf.Strconv.Itoa1
import Derived.Shelf.LaysM
import Derived.Shelf.Strconv.Itoa2
import Derived.Shelf.Strconv.Itoa3
import Derived.Shelf.Sort.Plain
import Derived.Shelf.Slices.In.SortNone
import Derived.Test.YtjdnbobilgamdaaGreatDoorProg
namespace Go.Proofs
open Go.Shelf
def Tryz.zg:Go.Shelf.Ren:=⟨fun|156=>34|165=>66|166=>67|169=>68|240=>119|241=>120|276=>167|277=>168|n=>n,fun|31=>41|9=>9|3=>3|4=>4|0=>0|20=>20|72=>138|76=>142|70=>135|37=>136|75=>141|127=>196|164=>252|5=>5|80=>144|n=>n,fun|n=>n⟩
theorem Tryz.JL:Go.Proofs.Lays.n156 Tryz.prog Tryz.zg:={
 mixed:=by kernel_rfl
 f156:=Tryz.func34.trans (congrArg some (by kernel_rfl))
 f165:=Tryz.func66.trans (congrArg some (by kernel_rfl))
 f166:=Tryz.func67.trans (congrArg some (by kernel_rfl))
 f169:=Tryz.func68.trans (congrArg some (by kernel_rfl))
 f240:=Tryz.func119.trans (congrArg some (by kernel_rfl))
 f241:=Tryz.func120.trans (congrArg some (by kernel_rfl))
 f276:=Tryz.func167.trans (congrArg some (by kernel_rfl))
 f277:=Tryz.func168.trans (congrArg some (by kernel_rfl))
 t0:=Tryz.underlying0
 a0:=Tryz.isAgg0
 z0:=Tryz.sizeOf0
 v0:=Tryz.zeroValue0
 t3:=Tryz.underlying3
 a3:=Tryz.isAgg3
 z3:=Tryz.sizeOf3
 v3:=Tryz.zeroValue3
 t4:=Tryz.underlying4
 a4:=Tryz.isAgg4
 z4:=Tryz.sizeOf4
 v4:=Tryz.zeroValue4
 t9:=Tryz.underlying9
 a9:=Tryz.isAgg9
 z9:=Tryz.sizeOf9
 v9:=Tryz.zeroValue9
 t20:=Tryz.underlying20
 a20:=Tryz.isAgg20
 z20:=Tryz.sizeOf20
 v20:=Tryz.zeroValue20
 t31:=Tryz.underlying41
 a31:=Tryz.isAgg41
 z31:=Tryz.sizeOf41
 v31:=Tryz.zeroValue41
 t37:=Tryz.underlying136
 a37:=Tryz.isAgg136
 z37:=Tryz.sizeOf136
 v37:=Tryz.zeroValue136
 t70:=Tryz.underlying135
 a70:=Tryz.isAgg135
 z70:=Tryz.sizeOf135
 v70:=Tryz.zeroValue135
 t72:=Tryz.underlying138
 a72:=Tryz.isAgg138
 z72:=Tryz.sizeOf138
 v72:=Tryz.zeroValue138
 t75:=Tryz.underlying141
 a75:=Tryz.isAgg141
 z75:=Tryz.sizeOf141
 v75:=Tryz.zeroValue141
 t76:=Tryz.underlying142
 a76:=Tryz.isAgg142
 z76:=Tryz.sizeOf142
 v76:=Tryz.zeroValue142
 t127:=Tryz.underlying196
 a127:=Tryz.isAgg196
 z127:=Tryz.sizeOf196
 v127:=Tryz.zeroValue196
 t164:=Tryz.underlying252
 a164:=Tryz.isAgg252
 z164:=Tryz.sizeOf252
 v164:=Tryz.zeroValue252 }
theorem Tryz.qg:Builder.Extra Tryz.prog Tryz.zg:={
 sizeBuilder:=by kernel_rfl
 liesBuilder:=by kernel_rfl
 t5:=Tryz.underlying5
 a5:=Tryz.isAgg5
 z5:=Tryz.sizeOf5
 v5:=Tryz.zeroValue5
 infoByte:=by kernel_rfl
 cellsByte:=by kernel_rfl
 sizeByte:=by kernel_rfl
 neB5:=by decide }
open Go.RowKit in
theorem Tryz.strings_Join_none(a:Option Addr)(c:Nat)(sep:ByteArray)(w:World):
  Calls Tryz.prog 34 #[.slice a 0 c,.string sep] w fun e w'=>e=.returned (.string ⟨#[]⟩)∧w'=w:=Any.strings_Join_none Tryz.JL Tryz.qg a c sep w
open Go.RowKit in
theorem Tryz.strings_Join(bk o c:Nat)(xs:List ByteArray)(sep:ByteArray)(w:World)(kh:∀ (j:Nat) x,xs[j]?=some x→w.cell? ⟨bk,o+j,none⟩=some (.string x))(wV:bk<w.heap.size)(hN:xs.length≤140737488355328)(ji:xs.length≤c)(hlen:(Lib.join (xs.map (·.data.toList)) sep.data.toList).length≤140737488355328):
  Calls Tryz.prog 34 #[.slice (some ⟨bk,o,none⟩) xs.length c,.string sep] w fun e w'=>e=.returned (.string ⟨(Lib.join (xs.map (·.data.toList)) sep.data.toList).toArray⟩)∧Below w.heap.size w w':=Any.strings_Join Tryz.JL Tryz.qg bk o c xs sep w kh wV hN ji hlen
def Tryz.GD:Go.Shelf.Ren:=⟨fun|189=>133|125=>140|257=>186|128=>200|129=>201|294=>250|295=>251|296=>252|297=>253|298=>254|299=>255|216=>188|300=>256|301=>257|328=>297|329=>264|330=>265|331=>298|332=>299|215=>141|343=>336|n=>n,fun|28=>42|3=>3|46=>225|0=>0|51=>288|53=>247|4=>4|183=>282|182=>281|131=>81|5=>5|9=>9|218=>332|222=>336|228=>363|229=>364|n=>n,fun|n=>n⟩
theorem Tryz.JM:Go.Proofs.Lays.n189 Tryz.prog Tryz.GD:={
 mixed:=by kernel_rfl
 f125:=Tryz.func140.trans (congrArg some (by kernel_rfl))
 f128:=Tryz.func200.trans (congrArg some (by kernel_rfl))
 f129:=Tryz.func201.trans (congrArg some (by kernel_rfl))
 f189:=Tryz.func133.trans (congrArg some (by kernel_rfl))
 f215:=Tryz.func141.trans (congrArg some (by kernel_rfl))
 f216:=Tryz.func188.trans (congrArg some (by kernel_rfl))
 f257:=Tryz.func186.trans (congrArg some (by kernel_rfl))
 f294:=Tryz.func250.trans (congrArg some (by kernel_rfl))
 f295:=Tryz.func251.trans (congrArg some (by kernel_rfl))
 f296:=Tryz.func252.trans (congrArg some (by kernel_rfl))
 f297:=Tryz.func253.trans (congrArg some (by kernel_rfl))
 f298:=Tryz.func254.trans (congrArg some (by kernel_rfl))
 f299:=Tryz.func255.trans (congrArg some (by kernel_rfl))
 f300:=Tryz.func256.trans (congrArg some (by kernel_rfl))
 f301:=Tryz.func257.trans (congrArg some (by kernel_rfl))
 f328:=Tryz.func297.trans (congrArg some (by kernel_rfl))
 f329:=Tryz.func264.trans (congrArg some (by kernel_rfl))
 f330:=Tryz.func265.trans (congrArg some (by kernel_rfl))
 f331:=Tryz.func298.trans (congrArg some (by kernel_rfl))
 f332:=Tryz.func299.trans (congrArg some (by kernel_rfl))
 f343:=Tryz.func336.trans (congrArg some (by kernel_rfl))
 t0:=Tryz.underlying0
 a0:=Tryz.isAgg0
 z0:=Tryz.sizeOf0
 v0:=Tryz.zeroValue0
 t3:=Tryz.underlying3
 a3:=Tryz.isAgg3
 z3:=Tryz.sizeOf3
 v3:=Tryz.zeroValue3
 t4:=Tryz.underlying4
 a4:=Tryz.isAgg4
 z4:=Tryz.sizeOf4
 v4:=Tryz.zeroValue4
 t5:=Tryz.underlying5
 a5:=Tryz.isAgg5
 z5:=Tryz.sizeOf5
 v5:=Tryz.zeroValue5
 t9:=Tryz.underlying9
 a9:=Tryz.isAgg9
 z9:=Tryz.sizeOf9
 v9:=Tryz.zeroValue9
 t28:=Tryz.underlying42
 a28:=Tryz.isAgg42
 z28:=Tryz.sizeOf42
 v28:=Tryz.zeroValue42
 t46:=Tryz.underlying225
 a46:=Tryz.isAgg225
 z46:=Tryz.sizeOf225
 v46:=Tryz.zeroValue225
 t51:=Tryz.underlying288
 a51:=Tryz.isAgg288
 z51:=Tryz.sizeOf288
 v51:=Tryz.zeroValue288
 t53:=Tryz.underlying247
 a53:=Tryz.isAgg247
 z53:=Tryz.sizeOf247
 v53:=Tryz.zeroValue247
 t131:=Tryz.underlying81
 a131:=Tryz.isAgg81
 z131:=Tryz.sizeOf81
 v131:=Tryz.zeroValue81
 t182:=Tryz.underlying281
 a182:=Tryz.isAgg281
 z182:=Tryz.sizeOf281
 v182:=Tryz.zeroValue281
 t183:=Tryz.underlying282
 a183:=Tryz.isAgg282
 z183:=Tryz.sizeOf282
 v183:=Tryz.zeroValue282
 t218:=Tryz.underlying332
 a218:=Tryz.isAgg332
 z218:=Tryz.sizeOf332
 v218:=Tryz.zeroValue332
 t222:=Tryz.underlying336
 a222:=Tryz.isAgg336
 z222:=Tryz.sizeOf336
 v222:=Tryz.zeroValue336
 t228:=Tryz.underlying363
 a228:=Tryz.isAgg363
 z228:=Tryz.sizeOf363
 v228:=Tryz.zeroValue363
 t229:=Tryz.underlying364
 a229:=Tryz.isAgg364
 z229:=Tryz.sizeOf364
 v229:=Tryz.zeroValue364 }
open Go.Sort Go.RowKit in
theorem Tryz.slices_Sort_int(aD off cap:Nat)(zs:List Int)(w:World)(hH:Holds (Value.int .i64) w aD off zs.toArray)(hblk:aD<w.heap.size)(dE:zs.length<4611686018427387904):
  Calls Tryz.prog 133 #[.slice (some ⟨aD,off,none⟩) zs.length cap] w fun e w'=>
   e=.returned (.tuple #[])∧∃ n os,w'=grow (putRow (Value.int .i64) (Sort.ahead w n) aD off (zs.mergeSort fun x y=>decide (x≤y)).toArray) os:=Any.slices_Sort_int Tryz.JM aD off cap zs w hH hblk dE
open Go.RowKit Go.Sort in
theorem Tryz.slices_Sort_int_none(p:Option Addr)(cap:Nat)(w:World):
  Calls Tryz.prog 133 #[.slice p 0 cap] w fun e w'=>e=.returned (.tuple #[])∧w'=w:=Any.slices_Sort_int_none Tryz.JM p cap w
end Go.Proofs
