import Derived.Shelf.Sort.Plain
import Derived.Shelf.Slices.In.SortNone
import Derived.Test.YtlcepoagpocadaaGreatDoorProg
/- slices.Sort of the library at this program. -/
namespace Go.Proofs
open Go.Shelf
def Tryz.lays189_ren : Go.Shelf.Ren := ⟨fun | 189 => 109 | 125 => 131 | 257 => 130 | 128 => 157 | 129 => 158 | 294 => 148 | 295 => 149 | 296 => 150 | 297 => 151 | 298 => 152 | 299 => 153 | 216 => 154 | 300 => 155 | 301 => 156 | 328 => 183 | 329 => 184 | 330 => 185 | 331 => 186 | 332 => 187 | 215 => 188 | 343 => 204 | n => n, fun | 28 => 62 | 3 => 3 | 46 => 43 | 0 => 0 | 51 => 241 | 53 => 243 | 4 => 4 | 183 => 234 | 182 => 233 | 131 => 208 | 5 => 5 | 9 => 9 | 218 => 261 | 222 => 265 | 228 => 284 | 229 => 285 | n => n, fun | n => n⟩
theorem Tryz.lays189 : Go.Proofs.Lays.n189 Tryz.prog Tryz.lays189_ren := {
  mixed := by kernel_rfl
  f125 := Tryz.func131.trans (congrArg some (by kernel_rfl))
  f128 := Tryz.func157.trans (congrArg some (by kernel_rfl))
  f129 := Tryz.func158.trans (congrArg some (by kernel_rfl))
  f189 := Tryz.func109.trans (congrArg some (by kernel_rfl))
  f215 := Tryz.func188.trans (congrArg some (by kernel_rfl))
  f216 := Tryz.func154.trans (congrArg some (by kernel_rfl))
  f257 := Tryz.func130.trans (congrArg some (by kernel_rfl))
  f294 := Tryz.func148.trans (congrArg some (by kernel_rfl))
  f295 := Tryz.func149.trans (congrArg some (by kernel_rfl))
  f296 := Tryz.func150.trans (congrArg some (by kernel_rfl))
  f297 := Tryz.func151.trans (congrArg some (by kernel_rfl))
  f298 := Tryz.func152.trans (congrArg some (by kernel_rfl))
  f299 := Tryz.func153.trans (congrArg some (by kernel_rfl))
  f300 := Tryz.func155.trans (congrArg some (by kernel_rfl))
  f301 := Tryz.func156.trans (congrArg some (by kernel_rfl))
  f328 := Tryz.func183.trans (congrArg some (by kernel_rfl))
  f329 := Tryz.func184.trans (congrArg some (by kernel_rfl))
  f330 := Tryz.func185.trans (congrArg some (by kernel_rfl))
  f331 := Tryz.func186.trans (congrArg some (by kernel_rfl))
  f332 := Tryz.func187.trans (congrArg some (by kernel_rfl))
  f343 := Tryz.func204.trans (congrArg some (by kernel_rfl))
  t0 := Tryz.underlying0
  a0 := Tryz.isAgg0
  z0 := Tryz.sizeOf0
  v0 := Tryz.zeroValue0
  t3 := Tryz.underlying3
  a3 := Tryz.isAgg3
  z3 := Tryz.sizeOf3
  v3 := Tryz.zeroValue3
  t4 := Tryz.underlying4
  a4 := Tryz.isAgg4
  z4 := Tryz.sizeOf4
  v4 := Tryz.zeroValue4
  t5 := Tryz.underlying5
  a5 := Tryz.isAgg5
  z5 := Tryz.sizeOf5
  v5 := Tryz.zeroValue5
  t9 := Tryz.underlying9
  a9 := Tryz.isAgg9
  z9 := Tryz.sizeOf9
  v9 := Tryz.zeroValue9
  t28 := Tryz.underlying62
  a28 := Tryz.isAgg62
  z28 := Tryz.sizeOf62
  v28 := Tryz.zeroValue62
  t46 := Tryz.underlying43
  a46 := Tryz.isAgg43
  z46 := Tryz.sizeOf43
  v46 := Tryz.zeroValue43
  t51 := Tryz.underlying241
  a51 := Tryz.isAgg241
  z51 := Tryz.sizeOf241
  v51 := Tryz.zeroValue241
  t53 := Tryz.underlying243
  a53 := Tryz.isAgg243
  z53 := Tryz.sizeOf243
  v53 := Tryz.zeroValue243
  t131 := Tryz.underlying208
  a131 := Tryz.isAgg208
  z131 := Tryz.sizeOf208
  v131 := Tryz.zeroValue208
  t182 := Tryz.underlying233
  a182 := Tryz.isAgg233
  z182 := Tryz.sizeOf233
  v182 := Tryz.zeroValue233
  t183 := Tryz.underlying234
  a183 := Tryz.isAgg234
  z183 := Tryz.sizeOf234
  v183 := Tryz.zeroValue234
  t218 := Tryz.underlying261
  a218 := Tryz.isAgg261
  z218 := Tryz.sizeOf261
  v218 := Tryz.zeroValue261
  t222 := Tryz.underlying265
  a222 := Tryz.isAgg265
  z222 := Tryz.sizeOf265
  v222 := Tryz.zeroValue265
  t228 := Tryz.underlying284
  a228 := Tryz.isAgg284
  z228 := Tryz.sizeOf284
  v228 := Tryz.zeroValue284
  t229 := Tryz.underlying285
  a229 := Tryz.isAgg285
  z229 := Tryz.sizeOf285
  v229 := Tryz.zeroValue285 }
open Go.Sort Go.RowKit in
theorem Tryz.slices_Sort_int (blk off cap : Nat) (zs : List Int) (w : World) (hH : Holds (Value.int .i64) w blk off zs.toArray) (hblk : blk < w.heap.size) (hsz : zs.length < 4611686018427387904) :
    Calls Tryz.prog 109 #[.slice (some ⟨blk, off, none⟩) zs.length cap] w fun e w' =>
      e = .returned (.tuple #[]) ∧ ∃ n os, w' = grow (putRow (Value.int .i64) (Sort.ahead w n) blk off (zs.mergeSort fun x y => decide (x ≤ y)).toArray) os := Any.slices_Sort_int Tryz.lays189 blk off cap zs w hH hblk hsz
open Go.RowKit Go.Sort in
/-- .. and plain. (LAID: no walk: one application.) -/
theorem Tryz.slices_Sort_int_none (p : Option Addr) (cap : Nat) (w : World) :
    Calls Tryz.prog 109 #[.slice p 0 cap] w fun e w' => e = .returned (.tuple #[]) ∧ w' = w := Any.slices_Sort_int_none Tryz.lays189 p cap w
end Go.Proofs
