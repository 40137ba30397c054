/- Contracts of the library functions Sort and Compact at this program, laid by the shelf. Conditions: as each says. -/
import Derived.Shelf.Sort.Plain
import Derived.Ground.Names2Prog
import Derived.Shelf.Slices.CompactS
import Derived.Shelf.Slices.In.SortNone
import Derived.Test.YtejgpghcahinhaaGreatChecked
namespace Go.Proofs
open Go.Shelf
def Tryz.lays190_ren : Go.Shelf.Ren := ⟨fun | 190 => 241 | 125 => 254 | 258 => 253 | 128 => 264 | 129 => 265 | 302 => 255 | 303 => 256 | 304 => 257 | 305 => 258 | 306 => 259 | 307 => 260 | 308 => 261 | 309 => 262 | 310 => 263 | 333 => 266 | 329 => 267 | 330 => 268 | 334 => 269 | 335 => 270 | 336 => 271 | 344 => 272 | n => n, fun | 31 => 44 | 9 => 9 | 3 => 3 | 46 => 215 | 0 => 0 | 51 => 256 | 53 => 258 | 4 => 4 | 183 => 249 | 182 => 248 | 131 => 235 | 5 => 5 | 218 => 259 | 222 => 263 | 228 => 265 | 229 => 266 | n => n, fun | n => n⟩
theorem Tryz.lays190 : Go.Proofs.Lays.n190 Tryz.prog Tryz.lays190_ren := {
  mixed := by kernel_rfl
  f125 := Tryz.func254.trans (congrArg some (by kernel_rfl))
  f128 := Tryz.func264.trans (congrArg some (by kernel_rfl))
  f129 := Tryz.func265.trans (congrArg some (by kernel_rfl))
  f190 := Tryz.func241.trans (congrArg some (by kernel_rfl))
  f258 := Tryz.func253.trans (congrArg some (by kernel_rfl))
  f302 := Tryz.func255.trans (congrArg some (by kernel_rfl))
  f303 := Tryz.func256.trans (congrArg some (by kernel_rfl))
  f304 := Tryz.func257.trans (congrArg some (by kernel_rfl))
  f305 := Tryz.func258.trans (congrArg some (by kernel_rfl))
  f306 := Tryz.func259.trans (congrArg some (by kernel_rfl))
  f307 := Tryz.func260.trans (congrArg some (by kernel_rfl))
  f308 := Tryz.func261.trans (congrArg some (by kernel_rfl))
  f309 := Tryz.func262.trans (congrArg some (by kernel_rfl))
  f310 := Tryz.func263.trans (congrArg some (by kernel_rfl))
  f329 := Tryz.func267.trans (congrArg some (by kernel_rfl))
  f330 := Tryz.func268.trans (congrArg some (by kernel_rfl))
  f333 := Tryz.func266.trans (congrArg some (by kernel_rfl))
  f334 := Tryz.func269.trans (congrArg some (by kernel_rfl))
  f335 := Tryz.func270.trans (congrArg some (by kernel_rfl))
  f336 := Tryz.func271.trans (congrArg some (by kernel_rfl))
  f344 := Tryz.func272.trans (congrArg some (by kernel_rfl))
  t0 := Tryz.underlying0
  a0 := Tryz.isAgg0
  z0 := Tryz.sizeOf0
  v0 := Tryz.zeroValue0
  t3 := Tryz.underlying3
  a3 := Tryz.isAgg3
  z3 := Tryz.sizeOf3
  v3 := Tryz.zeroValue3
  t4 := Tryz.underlying4
  a4 := Tryz.isAgg4
  z4 := Tryz.sizeOf4
  v4 := Tryz.zeroValue4
  t5 := Tryz.underlying5
  a5 := Tryz.isAgg5
  z5 := Tryz.sizeOf5
  v5 := Tryz.zeroValue5
  t9 := Tryz.underlying9
  a9 := Tryz.isAgg9
  z9 := Tryz.sizeOf9
  v9 := Tryz.zeroValue9
  t31 := Tryz.underlying44
  a31 := Tryz.isAgg44
  z31 := Tryz.sizeOf44
  v31 := Tryz.zeroValue44
  t46 := Tryz.underlying215
  a46 := Tryz.isAgg215
  z46 := Tryz.sizeOf215
  v46 := Tryz.zeroValue215
  t51 := Tryz.underlying256
  a51 := Tryz.isAgg256
  z51 := Tryz.sizeOf256
  v51 := Tryz.zeroValue256
  t53 := Tryz.underlying258
  a53 := Tryz.isAgg258
  z53 := Tryz.sizeOf258
  v53 := Tryz.zeroValue258
  t131 := Tryz.underlying235
  a131 := Tryz.isAgg235
  z131 := Tryz.sizeOf235
  v131 := Tryz.zeroValue235
  t182 := Tryz.underlying248
  a182 := Tryz.isAgg248
  z182 := Tryz.sizeOf248
  v182 := Tryz.zeroValue248
  t183 := Tryz.underlying249
  a183 := Tryz.isAgg249
  z183 := Tryz.sizeOf249
  v183 := Tryz.zeroValue249
  t218 := Tryz.underlying259
  a218 := Tryz.isAgg259
  z218 := Tryz.sizeOf259
  v218 := Tryz.zeroValue259
  t222 := Tryz.underlying263
  a222 := Tryz.isAgg263
  z222 := Tryz.sizeOf263
  v222 := Tryz.zeroValue263
  t228 := Tryz.underlying265
  a228 := Tryz.isAgg265
  z228 := Tryz.sizeOf265
  v228 := Tryz.zeroValue265
  t229 := Tryz.underlying266
  a229 := Tryz.isAgg266
  z229 := Tryz.sizeOf266
  v229 := Tryz.zeroValue266 }
open Go.Sort Go.RowKit in
theorem Tryz.slices_Sort_string (blk off cap : Nat) (ss : List (List UInt8)) (w : World) (hH : Holds encStr w blk off ss.toArray) (hblk : blk < w.heap.size) (hsz : ss.length < 4611686018427387904) :
    Calls Tryz.prog 241 #[.slice (some ⟨blk, off, none⟩) ss.length cap] w fun e w' =>
      e = .returned (.tuple #[]) ∧ ∃ n os, w' = grow (putRow encStr (Sort.ahead w n) blk off (ss.mergeSort fun x y => decide (x ≤ y)).toArray) os := Any.slices_Sort_string Tryz.lays190 blk off cap ss w hH hblk hsz
def Tryz.lays194_ren : Go.Shelf.Ren := ⟨fun | 194 => 242 | n => n, fun | 31 => 44 | 9 => 9 | 3 => 3 | 4 => 4 | 0 => 0 | n => n, fun | n => n⟩
theorem Tryz.lays194 : Go.Proofs.Lays.n194 Tryz.prog Tryz.lays194_ren := {
  mixed := by kernel_rfl
  f194 := Tryz.func242.trans (congrArg some (by kernel_rfl))
  t0 := Tryz.underlying0
  a0 := Tryz.isAgg0
  z0 := Tryz.sizeOf0
  v0 := Tryz.zeroValue0
  t3 := Tryz.underlying3
  a3 := Tryz.isAgg3
  z3 := Tryz.sizeOf3
  v3 := Tryz.zeroValue3
  t4 := Tryz.underlying4
  a4 := Tryz.isAgg4
  z4 := Tryz.sizeOf4
  v4 := Tryz.zeroValue4
  t9 := Tryz.underlying9
  a9 := Tryz.isAgg9
  z9 := Tryz.sizeOf9
  v9 := Tryz.zeroValue9
  t31 := Tryz.underlying44
  a31 := Tryz.isAgg44
  z31 := Tryz.sizeOf44
  v31 := Tryz.zeroValue44 }
open Go.RowKit Go.Lib Go.Sort in
theorem Tryz.slices_Compact_string (blk off cap : Nat) (zs : List (List UInt8)) (w : World) (hH : Holds encStr w blk off zs.toArray) (hsz : zs.length ≤ 9223372036854775807) (hcap : zs.length ≤ cap) :
    Calls Tryz.prog 242 #[.slice (some ⟨blk, off, none⟩) zs.length cap] w fun e w' => e = .returned (.slice (some ⟨blk, off, none⟩) (Lib.compact zs).length cap) ∧ ∃ q, w' = putRow encStr (Sort.ahead w q) blk off (Lib.compact zs ++ List.replicate (zs.length - (Lib.compact zs).length) []).toArray := Any.slices_Compact_string Tryz.lays194 blk off cap zs w hH hsz hcap
open Go.RowKit Go.Lib Go.Sort in
theorem Tryz.slices_Compact_string_empty (a : Option Addr) (cap : Nat) (w : World) :
    Calls Tryz.prog 242 #[.slice a 0 cap] w fun e w' => e = .returned (.slice a 0 cap) ∧ w' = w := Any.slices_Compact_string_empty Tryz.lays194 a cap w
open Go.RowKit Go.Sort in
theorem Tryz.slices_Sort_string_none (p : Option Addr) (cap : Nat) (w : World) :
    Calls Tryz.prog 241 #[.slice p 0 cap] w fun e w' => e = .returned (.tuple #[]) ∧ w' = w := Any.slices_Sort_string_none Tryz.lays190 p cap w
end Go.Proofs
