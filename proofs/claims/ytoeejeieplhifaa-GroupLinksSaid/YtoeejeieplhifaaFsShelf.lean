/- The library's contracts at this dump, laid by the kit's tools lay-shelf and lay-plain; remarks struck. -/
import Derived.Shelf.Small.Bits
import Derived.Shelf.Small.Wraps
import Derived.Shelf.Strconv.Itoa0
import Derived.Shelf.Sort.Plain
import Derived.Ground.Names2Prog
import Derived.Shelf.Slices.SearchI
import Derived.Shelf.Slices.In.SortNone
import Derived.Test.YtoeejeieplhifaaProg
namespace Go.Proofs
open Go.Shelf
def Try.lays135_ren : Go.Shelf.Ren := ⟨fun | 135 => 91 | n => n, fun | 5 => 5 | 3 => 3 | 9 => 9 | n => n, fun | n => n⟩
theorem Try.lays135 : Go.Proofs.Lays.n135 Try.prog Try.lays135_ren := {
  mixed := by kernel_rfl
  f135 := Try.func91.trans (congrArg some (by kernel_rfl))
  t3 := Try.underlying3
  a3 := Try.isAgg3
  z3 := Try.sizeOf3
  v3 := Try.zeroValue3
  t5 := Try.underlying5
  a5 := Try.isAgg5
  z5 := Try.sizeOf5
  v5 := Try.zeroValue5
  t9 := Try.underlying9
  a9 := Try.isAgg9
  z9 := Try.sizeOf9
  v9 := Try.zeroValue9 }
theorem Try.bits_OnesCount8 (x : Int) (w : World) (h0 : 0 ≤ x) (h1 : x ≤ 255) :
    Calls Try.prog 91 #[.int .u8 x] w fun e w' => e = .returned (.int .i64 (Lib.onesCount x.toNat)) ∧ w' = w := Any.bits_OnesCount8 Try.lays135 x w h0 h1
def Try.lays136_ren : Go.Shelf.Ren := ⟨fun | 136 => 84 | n => n, fun | 5 => 5 | 3 => 3 | 9 => 9 | n => n, fun | n => n⟩
theorem Try.lays136 : Go.Proofs.Lays.n136 Try.prog Try.lays136_ren := {
  mixed := by kernel_rfl
  f136 := Try.func84.trans (congrArg some (by kernel_rfl))
  t3 := Try.underlying3
  a3 := Try.isAgg3
  z3 := Try.sizeOf3
  v3 := Try.zeroValue3
  t5 := Try.underlying5
  a5 := Try.isAgg5
  z5 := Try.sizeOf5
  v5 := Try.zeroValue5
  t9 := Try.underlying9
  a9 := Try.isAgg9
  z9 := Try.sizeOf9
  v9 := Try.zeroValue9 }
theorem Try.bits_TrailingZeros8 (x : Int) (w : World) (h0 : 0 ≤ x) (h1 : x ≤ 255) :
    Calls Try.prog 84 #[.int .u8 x] w fun e w' => e = .returned (.int .i64 (Lib.trailingZeros8 x.toNat)) ∧ w' = w := Any.bits_TrailingZeros8 Try.lays136 x w h0 h1
def Try.lays189_ren : Go.Shelf.Ren := ⟨fun | 189 => 88 | 125 => 102 | 257 => 101 | 128 => 112 | 129 => 113 | 294 => 103 | 295 => 104 | 296 => 105 | 297 => 106 | 298 => 107 | 299 => 108 | 216 => 109 | 300 => 110 | 301 => 111 | 328 => 114 | 329 => 115 | 330 => 116 | 331 => 117 | 332 => 118 | 215 => 119 | 343 => 120 | n => n, fun | 28 => 138 | 3 => 3 | 46 => 79 | 0 => 0 | 51 => 49 | 53 => 220 | 4 => 4 | 183 => 213 | 182 => 212 | 131 => 201 | 5 => 5 | 9 => 9 | 218 => 221 | 222 => 225 | 228 => 227 | 229 => 228 | n => n, fun | n => n⟩
theorem Try.lays189 : Go.Proofs.Lays.n189 Try.prog Try.lays189_ren := {
  mixed := by kernel_rfl
  f125 := Try.func102.trans (congrArg some (by kernel_rfl))
  f128 := Try.func112.trans (congrArg some (by kernel_rfl))
  f129 := Try.func113.trans (congrArg some (by kernel_rfl))
  f189 := Try.func88.trans (congrArg some (by kernel_rfl))
  f215 := Try.func119.trans (congrArg some (by kernel_rfl))
  f216 := Try.func109.trans (congrArg some (by kernel_rfl))
  f257 := Try.func101.trans (congrArg some (by kernel_rfl))
  f294 := Try.func103.trans (congrArg some (by kernel_rfl))
  f295 := Try.func104.trans (congrArg some (by kernel_rfl))
  f296 := Try.func105.trans (congrArg some (by kernel_rfl))
  f297 := Try.func106.trans (congrArg some (by kernel_rfl))
  f298 := Try.func107.trans (congrArg some (by kernel_rfl))
  f299 := Try.func108.trans (congrArg some (by kernel_rfl))
  f300 := Try.func110.trans (congrArg some (by kernel_rfl))
  f301 := Try.func111.trans (congrArg some (by kernel_rfl))
  f328 := Try.func114.trans (congrArg some (by kernel_rfl))
  f329 := Try.func115.trans (congrArg some (by kernel_rfl))
  f330 := Try.func116.trans (congrArg some (by kernel_rfl))
  f331 := Try.func117.trans (congrArg some (by kernel_rfl))
  f332 := Try.func118.trans (congrArg some (by kernel_rfl))
  f343 := Try.func120.trans (congrArg some (by kernel_rfl))
  t0 := Try.underlying0
  a0 := Try.isAgg0
  z0 := Try.sizeOf0
  v0 := Try.zeroValue0
  t3 := Try.underlying3
  a3 := Try.isAgg3
  z3 := Try.sizeOf3
  v3 := Try.zeroValue3
  t4 := Try.underlying4
  a4 := Try.isAgg4
  z4 := Try.sizeOf4
  v4 := Try.zeroValue4
  t5 := Try.underlying5
  a5 := Try.isAgg5
  z5 := Try.sizeOf5
  v5 := Try.zeroValue5
  t9 := Try.underlying9
  a9 := Try.isAgg9
  z9 := Try.sizeOf9
  v9 := Try.zeroValue9
  t28 := Try.underlying138
  a28 := Try.isAgg138
  z28 := Try.sizeOf138
  v28 := Try.zeroValue138
  t46 := Try.underlying79
  a46 := Try.isAgg79
  z46 := Try.sizeOf79
  v46 := Try.zeroValue79
  t51 := Try.underlying49
  a51 := Try.isAgg49
  z51 := Try.sizeOf49
  v51 := Try.zeroValue49
  t53 := Try.underlying220
  a53 := Try.isAgg220
  z53 := Try.sizeOf220
  v53 := Try.zeroValue220
  t131 := Try.underlying201
  a131 := Try.isAgg201
  z131 := Try.sizeOf201
  v131 := Try.zeroValue201
  t182 := Try.underlying212
  a182 := Try.isAgg212
  z182 := Try.sizeOf212
  v182 := Try.zeroValue212
  t183 := Try.underlying213
  a183 := Try.isAgg213
  z183 := Try.sizeOf213
  v183 := Try.zeroValue213
  t218 := Try.underlying221
  a218 := Try.isAgg221
  z218 := Try.sizeOf221
  v218 := Try.zeroValue221
  t222 := Try.underlying225
  a222 := Try.isAgg225
  z222 := Try.sizeOf225
  v222 := Try.zeroValue225
  t228 := Try.underlying227
  a228 := Try.isAgg227
  z228 := Try.sizeOf227
  v228 := Try.zeroValue227
  t229 := Try.underlying228
  a229 := Try.isAgg228
  z229 := Try.sizeOf228
  v229 := Try.zeroValue228 }
open Go.Sort Go.RowKit in
theorem Try.slices_Sort_int (blk off cap : Nat) (zs : List Int) (w : World) (hH : Holds (Value.int .i64) w blk off zs.toArray) (hblk : blk < w.heap.size) (hsz : zs.length < 4611686018427387904) :
    Calls Try.prog 88 #[.slice (some ⟨blk, off, none⟩) zs.length cap] w fun e w' =>
      e = .returned (.tuple #[]) ∧ ∃ n os, w' = grow (putRow (Value.int .i64) (Sort.ahead w n) blk off (zs.mergeSort fun x y => decide (x ≤ y)).toArray) os := Any.slices_Sort_int Try.lays189 blk off cap zs w hH hblk hsz
open Go.RowKit Go.Sort in
theorem Try.slices_Sort_int_none (p : Option Addr) (cap : Nat) (w : World) :
    Calls Try.prog 88 #[.slice p 0 cap] w fun e w' => e = .returned (.tuple #[]) ∧ w' = w := Any.slices_Sort_int_none Try.lays189 p cap w
end Go.Proofs
