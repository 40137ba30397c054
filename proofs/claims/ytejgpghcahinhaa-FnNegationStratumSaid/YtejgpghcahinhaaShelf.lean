/- Contracts of the library functions Sort and Compact at this program, laid by the shelf. Conditions: as each says. -/
import Derived.Shelf.Sort.Plain
import Derived.Ground.Names2Prog
import Derived.Shelf.Slices.CompactI
import Derived.Shelf.Slices.CompactS
import Derived.Shelf.Slices.In.SortNone
import Derived.Test.YtejgpghcahinhaaChecked
namespace Go.Proofs
open Go.Shelf
def Try.lays189_ren : Go.Shelf.Ren := ⟨fun | 189 => 210 | 125 => 232 | 257 => 238 | 128 => 257 | 129 => 258 | 294 => 260 | 295 => 261 | 296 => 262 | 297 => 263 | 298 => 264 | 299 => 265 | 216 => 266 | 300 => 267 | 301 => 268 | 328 => 276 | 329 => 271 | 330 => 272 | 331 => 277 | 332 => 278 | 215 => 279 | 343 => 281 | n => n, fun | 28 => 27 | 3 => 3 | 46 => 219 | 0 => 0 | 51 => 245 | 53 => 247 | 4 => 4 | 183 => 238 | 182 => 237 | 131 => 212 | 5 => 5 | 9 => 9 | 218 => 256 | 222 => 260 | 228 => 264 | 229 => 265 | n => n, fun | n => n⟩
theorem Try.lays189 : Go.Proofs.Lays.n189 Try.prog Try.lays189_ren := {
  mixed := by kernel_rfl
  f125 := Try.func232.trans (congrArg some (by kernel_rfl))
  f128 := Try.func257.trans (congrArg some (by kernel_rfl))
  f129 := Try.func258.trans (congrArg some (by kernel_rfl))
  f189 := Try.func210.trans (congrArg some (by kernel_rfl))
  f215 := Try.func279.trans (congrArg some (by kernel_rfl))
  f216 := Try.func266.trans (congrArg some (by kernel_rfl))
  f257 := Try.func238.trans (congrArg some (by kernel_rfl))
  f294 := Try.func260.trans (congrArg some (by kernel_rfl))
  f295 := Try.func261.trans (congrArg some (by kernel_rfl))
  f296 := Try.func262.trans (congrArg some (by kernel_rfl))
  f297 := Try.func263.trans (congrArg some (by kernel_rfl))
  f298 := Try.func264.trans (congrArg some (by kernel_rfl))
  f299 := Try.func265.trans (congrArg some (by kernel_rfl))
  f300 := Try.func267.trans (congrArg some (by kernel_rfl))
  f301 := Try.func268.trans (congrArg some (by kernel_rfl))
  f328 := Try.func276.trans (congrArg some (by kernel_rfl))
  f329 := Try.func271.trans (congrArg some (by kernel_rfl))
  f330 := Try.func272.trans (congrArg some (by kernel_rfl))
  f331 := Try.func277.trans (congrArg some (by kernel_rfl))
  f332 := Try.func278.trans (congrArg some (by kernel_rfl))
  f343 := Try.func281.trans (congrArg some (by kernel_rfl))
  t0 := Try.underlying0
  a0 := Try.isAgg0
  z0 := Try.sizeOf0
  v0 := Try.zeroValue0
  t3 := Try.underlying3
  a3 := Try.isAgg3
  z3 := Try.sizeOf3
  v3 := Try.zeroValue3
  t4 := Try.underlying4
  a4 := Try.isAgg4
  z4 := Try.sizeOf4
  v4 := Try.zeroValue4
  t5 := Try.underlying5
  a5 := Try.isAgg5
  z5 := Try.sizeOf5
  v5 := Try.zeroValue5
  t9 := Try.underlying9
  a9 := Try.isAgg9
  z9 := Try.sizeOf9
  v9 := Try.zeroValue9
  t28 := Try.underlying27
  a28 := Try.isAgg27
  z28 := Try.sizeOf27
  v28 := Try.zeroValue27
  t46 := Try.underlying219
  a46 := Try.isAgg219
  z46 := Try.sizeOf219
  v46 := Try.zeroValue219
  t51 := Try.underlying245
  a51 := Try.isAgg245
  z51 := Try.sizeOf245
  v51 := Try.zeroValue245
  t53 := Try.underlying247
  a53 := Try.isAgg247
  z53 := Try.sizeOf247
  v53 := Try.zeroValue247
  t131 := Try.underlying212
  a131 := Try.isAgg212
  z131 := Try.sizeOf212
  v131 := Try.zeroValue212
  t182 := Try.underlying237
  a182 := Try.isAgg237
  z182 := Try.sizeOf237
  v182 := Try.zeroValue237
  t183 := Try.underlying238
  a183 := Try.isAgg238
  z183 := Try.sizeOf238
  v183 := Try.zeroValue238
  t218 := Try.underlying256
  a218 := Try.isAgg256
  z218 := Try.sizeOf256
  v218 := Try.zeroValue256
  t222 := Try.underlying260
  a222 := Try.isAgg260
  z222 := Try.sizeOf260
  v222 := Try.zeroValue260
  t228 := Try.underlying264
  a228 := Try.isAgg264
  z228 := Try.sizeOf264
  v228 := Try.zeroValue264
  t229 := Try.underlying265
  a229 := Try.isAgg265
  z229 := Try.sizeOf265
  v229 := Try.zeroValue265 }
open Go.Sort Go.RowKit in
theorem Try.slices_Sort_int (blk off cap : Nat) (zs : List Int) (w : World) (hH : Holds (Value.int .i64) w blk off zs.toArray) (hblk : blk < w.heap.size) (hsz : zs.length < 4611686018427387904) :
    Calls Try.prog 210 #[.slice (some ⟨blk, off, none⟩) zs.length cap] w fun e w' =>
      e = .returned (.tuple #[]) ∧ ∃ n os, w' = grow (putRow (Value.int .i64) (Sort.ahead w n) blk off (zs.mergeSort fun x y => decide (x ≤ y)).toArray) os := Any.slices_Sort_int Try.lays189 blk off cap zs w hH hblk hsz
def Try.lays190_ren : Go.Shelf.Ren := ⟨fun | 190 => 199 | 125 => 232 | 258 => 231 | 128 => 257 | 129 => 258 | 302 => 248 | 303 => 249 | 304 => 250 | 305 => 251 | 306 => 252 | 307 => 253 | 308 => 254 | 309 => 255 | 310 => 256 | 333 => 270 | 329 => 271 | 330 => 272 | 334 => 273 | 335 => 274 | 336 => 275 | 344 => 280 | n => n, fun | 31 => 63 | 9 => 9 | 3 => 3 | 46 => 219 | 0 => 0 | 51 => 245 | 53 => 247 | 4 => 4 | 183 => 238 | 182 => 237 | 131 => 212 | 5 => 5 | 218 => 256 | 222 => 260 | 228 => 264 | 229 => 265 | n => n, fun | n => n⟩
theorem Try.lays190 : Go.Proofs.Lays.n190 Try.prog Try.lays190_ren := {
  mixed := by kernel_rfl
  f125 := Try.func232.trans (congrArg some (by kernel_rfl))
  f128 := Try.func257.trans (congrArg some (by kernel_rfl))
  f129 := Try.func258.trans (congrArg some (by kernel_rfl))
  f190 := Try.func199.trans (congrArg some (by kernel_rfl))
  f258 := Try.func231.trans (congrArg some (by kernel_rfl))
  f302 := Try.func248.trans (congrArg some (by kernel_rfl))
  f303 := Try.func249.trans (congrArg some (by kernel_rfl))
  f304 := Try.func250.trans (congrArg some (by kernel_rfl))
  f305 := Try.func251.trans (congrArg some (by kernel_rfl))
  f306 := Try.func252.trans (congrArg some (by kernel_rfl))
  f307 := Try.func253.trans (congrArg some (by kernel_rfl))
  f308 := Try.func254.trans (congrArg some (by kernel_rfl))
  f309 := Try.func255.trans (congrArg some (by kernel_rfl))
  f310 := Try.func256.trans (congrArg some (by kernel_rfl))
  f329 := Try.func271.trans (congrArg some (by kernel_rfl))
  f330 := Try.func272.trans (congrArg some (by kernel_rfl))
  f333 := Try.func270.trans (congrArg some (by kernel_rfl))
  f334 := Try.func273.trans (congrArg some (by kernel_rfl))
  f335 := Try.func274.trans (congrArg some (by kernel_rfl))
  f336 := Try.func275.trans (congrArg some (by kernel_rfl))
  f344 := Try.func280.trans (congrArg some (by kernel_rfl))
  t0 := Try.underlying0
  a0 := Try.isAgg0
  z0 := Try.sizeOf0
  v0 := Try.zeroValue0
  t3 := Try.underlying3
  a3 := Try.isAgg3
  z3 := Try.sizeOf3
  v3 := Try.zeroValue3
  t4 := Try.underlying4
  a4 := Try.isAgg4
  z4 := Try.sizeOf4
  v4 := Try.zeroValue4
  t5 := Try.underlying5
  a5 := Try.isAgg5
  z5 := Try.sizeOf5
  v5 := Try.zeroValue5
  t9 := Try.underlying9
  a9 := Try.isAgg9
  z9 := Try.sizeOf9
  v9 := Try.zeroValue9
  t31 := Try.underlying63
  a31 := Try.isAgg63
  z31 := Try.sizeOf63
  v31 := Try.zeroValue63
  t46 := Try.underlying219
  a46 := Try.isAgg219
  z46 := Try.sizeOf219
  v46 := Try.zeroValue219
  t51 := Try.underlying245
  a51 := Try.isAgg245
  z51 := Try.sizeOf245
  v51 := Try.zeroValue245
  t53 := Try.underlying247
  a53 := Try.isAgg247
  z53 := Try.sizeOf247
  v53 := Try.zeroValue247
  t131 := Try.underlying212
  a131 := Try.isAgg212
  z131 := Try.sizeOf212
  v131 := Try.zeroValue212
  t182 := Try.underlying237
  a182 := Try.isAgg237
  z182 := Try.sizeOf237
  v182 := Try.zeroValue237
  t183 := Try.underlying238
  a183 := Try.isAgg238
  z183 := Try.sizeOf238
  v183 := Try.zeroValue238
  t218 := Try.underlying256
  a218 := Try.isAgg256
  z218 := Try.sizeOf256
  v218 := Try.zeroValue256
  t222 := Try.underlying260
  a222 := Try.isAgg260
  z222 := Try.sizeOf260
  v222 := Try.zeroValue260
  t228 := Try.underlying264
  a228 := Try.isAgg264
  z228 := Try.sizeOf264
  v228 := Try.zeroValue264
  t229 := Try.underlying265
  a229 := Try.isAgg265
  z229 := Try.sizeOf265
  v229 := Try.zeroValue265 }
open Go.Sort Go.RowKit in
theorem Try.slices_Sort_string (blk off cap : Nat) (ss : List (List UInt8)) (w : World) (hH : Holds encStr w blk off ss.toArray) (hblk : blk < w.heap.size) (hsz : ss.length < 4611686018427387904) :
    Calls Try.prog 199 #[.slice (some ⟨blk, off, none⟩) ss.length cap] w fun e w' =>
      e = .returned (.tuple #[]) ∧ ∃ n os, w' = grow (putRow encStr (Sort.ahead w n) blk off (ss.mergeSort fun x y => decide (x ≤ y)).toArray) os := Any.slices_Sort_string Try.lays190 blk off cap ss w hH hblk hsz
def Try.laysNm220_ren : Go.Shelf.Ren := ⟨fun | 20 => 211 | n => n, fun | 22 => 27 | 3 => 3 | 4 => 4 | 0 => 0 | n => n, fun | n => n⟩
theorem Try.laysNm220 : Go.Proofs.Lays2.n20 Try.prog Try.laysNm220_ren := {
  mixed := by kernel_rfl
  f20 := Try.func211.trans (congrArg some (by kernel_rfl))
  t0 := Try.underlying0
  a0 := Try.isAgg0
  z0 := Try.sizeOf0
  v0 := Try.zeroValue0
  t3 := Try.underlying3
  a3 := Try.isAgg3
  z3 := Try.sizeOf3
  v3 := Try.zeroValue3
  t4 := Try.underlying4
  a4 := Try.isAgg4
  z4 := Try.sizeOf4
  v4 := Try.zeroValue4
  t22 := Try.underlying27
  a22 := Try.isAgg27
  z22 := Try.sizeOf27
  v22 := Try.zeroValue27
  i3 := by kernel_rfl }
open Go.RowKit Go.Lib Go.Sort in
theorem Try.slices_Compact_int (blk off cap : Nat) (zs : List Int) (w : World) (hH : Holds (Value.int .i64) w blk off zs.toArray) (hsz : zs.length ≤ 9223372036854775807) (hcap : zs.length ≤ cap) :
    Calls Try.prog 211 #[.slice (some ⟨blk, off, none⟩) zs.length cap] w fun e w' => e = .returned (.slice (some ⟨blk, off, none⟩) (Lib.compact zs).length cap) ∧ ∃ q, w' = putRow (Value.int .i64) (Sort.ahead w q) blk off (Lib.compact zs ++ List.replicate (zs.length - (Lib.compact zs).length) 0).toArray := Any.slices_Compact_int Try.laysNm220 blk off cap zs w hH hsz hcap
open Go.RowKit Go.Lib Go.Sort in
theorem Try.slices_Compact_int_empty (a : Option Addr) (cap : Nat) (w : World) :
    Calls Try.prog 211 #[.slice a 0 cap] w fun e w' => e = .returned (.slice a 0 cap) ∧ w' = w := Any.slices_Compact_int_empty Try.laysNm220 a cap w
def Try.lays194_ren : Go.Shelf.Ren := ⟨fun | 194 => 200 | n => n, fun | 31 => 63 | 9 => 9 | 3 => 3 | 4 => 4 | 0 => 0 | n => n, fun | n => n⟩
theorem Try.lays194 : Go.Proofs.Lays.n194 Try.prog Try.lays194_ren := {
  mixed := by kernel_rfl
  f194 := Try.func200.trans (congrArg some (by kernel_rfl))
  t0 := Try.underlying0
  a0 := Try.isAgg0
  z0 := Try.sizeOf0
  v0 := Try.zeroValue0
  t3 := Try.underlying3
  a3 := Try.isAgg3
  z3 := Try.sizeOf3
  v3 := Try.zeroValue3
  t4 := Try.underlying4
  a4 := Try.isAgg4
  z4 := Try.sizeOf4
  v4 := Try.zeroValue4
  t9 := Try.underlying9
  a9 := Try.isAgg9
  z9 := Try.sizeOf9
  v9 := Try.zeroValue9
  t31 := Try.underlying63
  a31 := Try.isAgg63
  z31 := Try.sizeOf63
  v31 := Try.zeroValue63 }
open Go.RowKit Go.Lib Go.Sort in
theorem Try.slices_Compact_string (blk off cap : Nat) (zs : List (List UInt8)) (w : World) (hH : Holds encStr w blk off zs.toArray) (hsz : zs.length ≤ 9223372036854775807) (hcap : zs.length ≤ cap) :
    Calls Try.prog 200 #[.slice (some ⟨blk, off, none⟩) zs.length cap] w fun e w' => e = .returned (.slice (some ⟨blk, off, none⟩) (Lib.compact zs).length cap) ∧ ∃ q, w' = putRow encStr (Sort.ahead w q) blk off (Lib.compact zs ++ List.replicate (zs.length - (Lib.compact zs).length) []).toArray := Any.slices_Compact_string Try.lays194 blk off cap zs w hH hsz hcap
open Go.RowKit Go.Lib Go.Sort in
theorem Try.slices_Compact_string_empty (a : Option Addr) (cap : Nat) (w : World) :
    Calls Try.prog 200 #[.slice a 0 cap] w fun e w' => e = .returned (.slice a 0 cap) ∧ w' = w := Any.slices_Compact_string_empty Try.lays194 a cap w
open Go.RowKit Go.Sort in
theorem Try.slices_Sort_string_none (p : Option Addr) (cap : Nat) (w : World) :
    Calls Try.prog 199 #[.slice p 0 cap] w fun e w' => e = .returned (.tuple #[]) ∧ w' = w := Any.slices_Sort_string_none Try.lays190 p cap w
open Go.RowKit Go.Sort in
theorem Try.slices_Sort_int_none (p : Option Addr) (cap : Nat) (w : World) :
    Calls Try.prog 210 #[.slice p 0 cap] w fun e w' => e = .returned (.tuple #[]) ∧ w' = w := Any.slices_Sort_int_none Try.lays189 p cap w
end Go.Proofs
