/-
  DERIVED: THE SHELF's CONTRACTS AT THIS DUMP, IN PLAIN WORDS (tools/lay-plain.mjs out of 'YtlbiooppadlolaaGreatDoorSh.lean', which tools/lay-shelf.mjs wrote): THE SAME DECLARATIONS UNDER THE SAME NAMES: 'import', 'namespace', 'open', 'def', 'theorem' AND NOTHING ELSE: no command of the shelf's: FOR A HAND-IN. Each laying: the table of numbers ('.._ren') and one theorem, a field a fact of the dump's own or the kernel's comparison; each contract: ONE APPLICATION.
-/
import Derived.Shelf.LaysM
import Derived.Shelf.Sort.Plain
import Derived.Shelf.Slices.In.SortNone
import Derived.Test.YtlbiooppadlolaaGreatDoorProg
namespace Go.Proofs
open Go.Shelf
def Tryz.lays189_ren : Go.Shelf.Ren := ⟨fun | 189 => 29 | 125 => 58 | 257 => 57 | 128 => 103 | 129 => 104 | 294 => 94 | 295 => 95 | 296 => 96 | 297 => 97 | 298 => 98 | 299 => 99 | 216 => 100 | 300 => 101 | 301 => 102 | 328 => 148 | 329 => 149 | 330 => 150 | 331 => 151 | 332 => 152 | 215 => 93 | 343 => 185 | n => n, fun | 28 => 25 | 3 => 3 | 46 => 100 | 0 => 0 | 51 => 164 | 53 => 166 | 4 => 4 | 183 => 157 | 182 => 156 | 131 => 128 | 5 => 5 | 9 => 9 | 218 => 212 | 222 => 216 | 228 => 254 | 229 => 255 | n => n, fun | n => n⟩
theorem Tryz.lays189 : Go.Proofs.Lays.n189 Tryz.prog Tryz.lays189_ren := {
  mixed := by kernel_rfl
  f125 := Tryz.func58.trans (congrArg some (by kernel_rfl))
  f128 := Tryz.func103.trans (congrArg some (by kernel_rfl))
  f129 := Tryz.func104.trans (congrArg some (by kernel_rfl))
  f189 := Tryz.func29.trans (congrArg some (by kernel_rfl))
  f215 := Tryz.func93.trans (congrArg some (by kernel_rfl))
  f216 := Tryz.func100.trans (congrArg some (by kernel_rfl))
  f257 := Tryz.func57.trans (congrArg some (by kernel_rfl))
  f294 := Tryz.func94.trans (congrArg some (by kernel_rfl))
  f295 := Tryz.func95.trans (congrArg some (by kernel_rfl))
  f296 := Tryz.func96.trans (congrArg some (by kernel_rfl))
  f297 := Tryz.func97.trans (congrArg some (by kernel_rfl))
  f298 := Tryz.func98.trans (congrArg some (by kernel_rfl))
  f299 := Tryz.func99.trans (congrArg some (by kernel_rfl))
  f300 := Tryz.func101.trans (congrArg some (by kernel_rfl))
  f301 := Tryz.func102.trans (congrArg some (by kernel_rfl))
  f328 := Tryz.func148.trans (congrArg some (by kernel_rfl))
  f329 := Tryz.func149.trans (congrArg some (by kernel_rfl))
  f330 := Tryz.func150.trans (congrArg some (by kernel_rfl))
  f331 := Tryz.func151.trans (congrArg some (by kernel_rfl))
  f332 := Tryz.func152.trans (congrArg some (by kernel_rfl))
  f343 := Tryz.func185.trans (congrArg some (by kernel_rfl))
  t0 := Tryz.underlying0
  a0 := Tryz.isAgg0
  z0 := Tryz.sizeOf0
  v0 := Tryz.zeroValue0
  t3 := Tryz.underlying3
  a3 := Tryz.isAgg3
  z3 := Tryz.sizeOf3
  v3 := Tryz.zeroValue3
  t4 := Tryz.underlying4
  a4 := Tryz.isAgg4
  z4 := Tryz.sizeOf4
  v4 := Tryz.zeroValue4
  t5 := Tryz.underlying5
  a5 := Tryz.isAgg5
  z5 := Tryz.sizeOf5
  v5 := Tryz.zeroValue5
  t9 := Tryz.underlying9
  a9 := Tryz.isAgg9
  z9 := Tryz.sizeOf9
  v9 := Tryz.zeroValue9
  t28 := Tryz.underlying25
  a28 := Tryz.isAgg25
  z28 := Tryz.sizeOf25
  v28 := Tryz.zeroValue25
  t46 := Tryz.underlying100
  a46 := Tryz.isAgg100
  z46 := Tryz.sizeOf100
  v46 := Tryz.zeroValue100
  t51 := Tryz.underlying164
  a51 := Tryz.isAgg164
  z51 := Tryz.sizeOf164
  v51 := Tryz.zeroValue164
  t53 := Tryz.underlying166
  a53 := Tryz.isAgg166
  z53 := Tryz.sizeOf166
  v53 := Tryz.zeroValue166
  t131 := Tryz.underlying128
  a131 := Tryz.isAgg128
  z131 := Tryz.sizeOf128
  v131 := Tryz.zeroValue128
  t182 := Tryz.underlying156
  a182 := Tryz.isAgg156
  z182 := Tryz.sizeOf156
  v182 := Tryz.zeroValue156
  t183 := Tryz.underlying157
  a183 := Tryz.isAgg157
  z183 := Tryz.sizeOf157
  v183 := Tryz.zeroValue157
  t218 := Tryz.underlying212
  a218 := Tryz.isAgg212
  z218 := Tryz.sizeOf212
  v218 := Tryz.zeroValue212
  t222 := Tryz.underlying216
  a222 := Tryz.isAgg216
  z222 := Tryz.sizeOf216
  v222 := Tryz.zeroValue216
  t228 := Tryz.underlying254
  a228 := Tryz.isAgg254
  z228 := Tryz.sizeOf254
  v228 := Tryz.zeroValue254
  t229 := Tryz.underlying255
  a229 := Tryz.isAgg255
  z229 := Tryz.sizeOf255
  v229 := Tryz.zeroValue255 }
open Go.Sort Go.RowKit in
theorem Tryz.slices_Sort_int (blk off cap : Nat) (zs : List Int) (w : World) (hH : Holds (Value.int .i64) w blk off zs.toArray) (hblk : blk < w.heap.size) (hsz : zs.length < 4611686018427387904) :
    Calls Tryz.prog 29 #[.slice (some ⟨blk, off, none⟩) zs.length cap] w fun e w' =>
      e = .returned (.tuple #[]) ∧ ∃ n os, w' = grow (putRow (Value.int .i64) (Sort.ahead w n) blk off (zs.mergeSort fun x y => decide (x ≤ y)).toArray) os := Any.slices_Sort_int Tryz.lays189 blk off cap zs w hH hblk hsz
open Go.RowKit Go.Sort in
/-- .. and plain. (LAID: no walk: one application.) -/
theorem Tryz.slices_Sort_int_none (p : Option Addr) (cap : Nat) (w : World) :
    Calls Tryz.prog 29 #[.slice p 0 cap] w fun e w' => e = .returned (.tuple #[]) ∧ w' = w := Any.slices_Sort_int_none Tryz.lays189 p cap w
end Go.Proofs
