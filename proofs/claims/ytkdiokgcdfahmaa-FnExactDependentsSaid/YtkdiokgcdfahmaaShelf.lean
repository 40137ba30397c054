/- Contracts of the library functions Sort and Compact at this program, laid by the shelf. Conditions: as each says. -/
import Derived.Shelf.Sort.Plain
import Derived.Ground.Names2Prog
import Derived.Shelf.Slices.CompactI
import Derived.Shelf.Slices.CompactS
import Derived.Shelf.Slices.In.SortNone
import Derived.Test.YtkdiokgcdfahmaaChecked
namespace Go.Proofs
open Go.Shelf
def Try.lays189_ren : Go.Shelf.Ren := ⟨fun | 189 => 165 | 125 => 198 | 257 => 201 | 128 => 221 | 129 => 222 | 294 => 224 | 295 => 225 | 296 => 226 | 297 => 227 | 298 => 228 | 299 => 229 | 216 => 230 | 300 => 231 | 301 => 232 | 328 => 240 | 329 => 235 | 330 => 236 | 331 => 241 | 332 => 242 | 215 => 243 | 343 => 245 | n => n, fun | 28 => 52 | 3 => 3 | 46 => 197 | 0 => 0 | 51 => 217 | 53 => 219 | 4 => 4 | 183 => 210 | 182 => 209 | 131 => 184 | 5 => 5 | 9 => 9 | 218 => 228 | 222 => 232 | 228 => 236 | 229 => 237 | n => n, fun | n => n⟩
theorem Try.lays189 : Go.Proofs.Lays.n189 Try.prog Try.lays189_ren := {
  mixed := by kernel_rfl
  f125 := Try.func198.trans (congrArg some (by kernel_rfl))
  f128 := Try.func221.trans (congrArg some (by kernel_rfl))
  f129 := Try.func222.trans (congrArg some (by kernel_rfl))
  f189 := Try.func165.trans (congrArg some (by kernel_rfl))
  f215 := Try.func243.trans (congrArg some (by kernel_rfl))
  f216 := Try.func230.trans (congrArg some (by kernel_rfl))
  f257 := Try.func201.trans (congrArg some (by kernel_rfl))
  f294 := Try.func224.trans (congrArg some (by kernel_rfl))
  f295 := Try.func225.trans (congrArg some (by kernel_rfl))
  f296 := Try.func226.trans (congrArg some (by kernel_rfl))
  f297 := Try.func227.trans (congrArg some (by kernel_rfl))
  f298 := Try.func228.trans (congrArg some (by kernel_rfl))
  f299 := Try.func229.trans (congrArg some (by kernel_rfl))
  f300 := Try.func231.trans (congrArg some (by kernel_rfl))
  f301 := Try.func232.trans (congrArg some (by kernel_rfl))
  f328 := Try.func240.trans (congrArg some (by kernel_rfl))
  f329 := Try.func235.trans (congrArg some (by kernel_rfl))
  f330 := Try.func236.trans (congrArg some (by kernel_rfl))
  f331 := Try.func241.trans (congrArg some (by kernel_rfl))
  f332 := Try.func242.trans (congrArg some (by kernel_rfl))
  f343 := Try.func245.trans (congrArg some (by kernel_rfl))
  t0 := Try.underlying0
  a0 := Try.isAgg0
  z0 := Try.sizeOf0
  v0 := Try.zeroValue0
  t3 := Try.underlying3
  a3 := Try.isAgg3
  z3 := Try.sizeOf3
  v3 := Try.zeroValue3
  t4 := Try.underlying4
  a4 := Try.isAgg4
  z4 := Try.sizeOf4
  v4 := Try.zeroValue4
  t5 := Try.underlying5
  a5 := Try.isAgg5
  z5 := Try.sizeOf5
  v5 := Try.zeroValue5
  t9 := Try.underlying9
  a9 := Try.isAgg9
  z9 := Try.sizeOf9
  v9 := Try.zeroValue9
  t28 := Try.underlying52
  a28 := Try.isAgg52
  z28 := Try.sizeOf52
  v28 := Try.zeroValue52
  t46 := Try.underlying197
  a46 := Try.isAgg197
  z46 := Try.sizeOf197
  v46 := Try.zeroValue197
  t51 := Try.underlying217
  a51 := Try.isAgg217
  z51 := Try.sizeOf217
  v51 := Try.zeroValue217
  t53 := Try.underlying219
  a53 := Try.isAgg219
  z53 := Try.sizeOf219
  v53 := Try.zeroValue219
  t131 := Try.underlying184
  a131 := Try.isAgg184
  z131 := Try.sizeOf184
  v131 := Try.zeroValue184
  t182 := Try.underlying209
  a182 := Try.isAgg209
  z182 := Try.sizeOf209
  v182 := Try.zeroValue209
  t183 := Try.underlying210
  a183 := Try.isAgg210
  z183 := Try.sizeOf210
  v183 := Try.zeroValue210
  t218 := Try.underlying228
  a218 := Try.isAgg228
  z218 := Try.sizeOf228
  v218 := Try.zeroValue228
  t222 := Try.underlying232
  a222 := Try.isAgg232
  z222 := Try.sizeOf232
  v222 := Try.zeroValue232
  t228 := Try.underlying236
  a228 := Try.isAgg236
  z228 := Try.sizeOf236
  v228 := Try.zeroValue236
  t229 := Try.underlying237
  a229 := Try.isAgg237
  z229 := Try.sizeOf237
  v229 := Try.zeroValue237 }
open Go.Sort Go.RowKit in
theorem Try.slices_Sort_int (blk off cap : Nat) (zs : List Int) (w : World) (hH : Holds (Value.int .i64) w blk off zs.toArray) (hblk : blk < w.heap.size) (hsz : zs.length < 4611686018427387904) :
    Calls Try.prog 165 #[.slice (some ⟨blk, off, none⟩) zs.length cap] w fun e w' =>
      e = .returned (.tuple #[]) ∧ ∃ n os, w' = grow (putRow (Value.int .i64) (Sort.ahead w n) blk off (zs.mergeSort fun x y => decide (x ≤ y)).toArray) os := Any.slices_Sort_int Try.lays189 blk off cap zs w hH hblk hsz
def Try.lays190_ren : Go.Shelf.Ren := ⟨fun | 190 => 154 | 125 => 198 | 258 => 197 | 128 => 221 | 129 => 222 | 302 => 212 | 303 => 213 | 304 => 214 | 305 => 215 | 306 => 216 | 307 => 217 | 308 => 218 | 309 => 219 | 310 => 220 | 333 => 234 | 329 => 235 | 330 => 236 | 334 => 237 | 335 => 238 | 336 => 239 | 344 => 244 | n => n, fun | 31 => 24 | 9 => 9 | 3 => 3 | 46 => 197 | 0 => 0 | 51 => 217 | 53 => 219 | 4 => 4 | 183 => 210 | 182 => 209 | 131 => 184 | 5 => 5 | 218 => 228 | 222 => 232 | 228 => 236 | 229 => 237 | n => n, fun | n => n⟩
theorem Try.lays190 : Go.Proofs.Lays.n190 Try.prog Try.lays190_ren := {
  mixed := by kernel_rfl
  f125 := Try.func198.trans (congrArg some (by kernel_rfl))
  f128 := Try.func221.trans (congrArg some (by kernel_rfl))
  f129 := Try.func222.trans (congrArg some (by kernel_rfl))
  f190 := Try.func154.trans (congrArg some (by kernel_rfl))
  f258 := Try.func197.trans (congrArg some (by kernel_rfl))
  f302 := Try.func212.trans (congrArg some (by kernel_rfl))
  f303 := Try.func213.trans (congrArg some (by kernel_rfl))
  f304 := Try.func214.trans (congrArg some (by kernel_rfl))
  f305 := Try.func215.trans (congrArg some (by kernel_rfl))
  f306 := Try.func216.trans (congrArg some (by kernel_rfl))
  f307 := Try.func217.trans (congrArg some (by kernel_rfl))
  f308 := Try.func218.trans (congrArg some (by kernel_rfl))
  f309 := Try.func219.trans (congrArg some (by kernel_rfl))
  f310 := Try.func220.trans (congrArg some (by kernel_rfl))
  f329 := Try.func235.trans (congrArg some (by kernel_rfl))
  f330 := Try.func236.trans (congrArg some (by kernel_rfl))
  f333 := Try.func234.trans (congrArg some (by kernel_rfl))
  f334 := Try.func237.trans (congrArg some (by kernel_rfl))
  f335 := Try.func238.trans (congrArg some (by kernel_rfl))
  f336 := Try.func239.trans (congrArg some (by kernel_rfl))
  f344 := Try.func244.trans (congrArg some (by kernel_rfl))
  t0 := Try.underlying0
  a0 := Try.isAgg0
  z0 := Try.sizeOf0
  v0 := Try.zeroValue0
  t3 := Try.underlying3
  a3 := Try.isAgg3
  z3 := Try.sizeOf3
  v3 := Try.zeroValue3
  t4 := Try.underlying4
  a4 := Try.isAgg4
  z4 := Try.sizeOf4
  v4 := Try.zeroValue4
  t5 := Try.underlying5
  a5 := Try.isAgg5
  z5 := Try.sizeOf5
  v5 := Try.zeroValue5
  t9 := Try.underlying9
  a9 := Try.isAgg9
  z9 := Try.sizeOf9
  v9 := Try.zeroValue9
  t31 := Try.underlying24
  a31 := Try.isAgg24
  z31 := Try.sizeOf24
  v31 := Try.zeroValue24
  t46 := Try.underlying197
  a46 := Try.isAgg197
  z46 := Try.sizeOf197
  v46 := Try.zeroValue197
  t51 := Try.underlying217
  a51 := Try.isAgg217
  z51 := Try.sizeOf217
  v51 := Try.zeroValue217
  t53 := Try.underlying219
  a53 := Try.isAgg219
  z53 := Try.sizeOf219
  v53 := Try.zeroValue219
  t131 := Try.underlying184
  a131 := Try.isAgg184
  z131 := Try.sizeOf184
  v131 := Try.zeroValue184
  t182 := Try.underlying209
  a182 := Try.isAgg209
  z182 := Try.sizeOf209
  v182 := Try.zeroValue209
  t183 := Try.underlying210
  a183 := Try.isAgg210
  z183 := Try.sizeOf210
  v183 := Try.zeroValue210
  t218 := Try.underlying228
  a218 := Try.isAgg228
  z218 := Try.sizeOf228
  v218 := Try.zeroValue228
  t222 := Try.underlying232
  a222 := Try.isAgg232
  z222 := Try.sizeOf232
  v222 := Try.zeroValue232
  t228 := Try.underlying236
  a228 := Try.isAgg236
  z228 := Try.sizeOf236
  v228 := Try.zeroValue236
  t229 := Try.underlying237
  a229 := Try.isAgg237
  z229 := Try.sizeOf237
  v229 := Try.zeroValue237 }
open Go.Sort Go.RowKit in
theorem Try.slices_Sort_string (blk off cap : Nat) (ss : List (List UInt8)) (w : World) (hH : Holds encStr w blk off ss.toArray) (hblk : blk < w.heap.size) (hsz : ss.length < 4611686018427387904) :
    Calls Try.prog 154 #[.slice (some ⟨blk, off, none⟩) ss.length cap] w fun e w' =>
      e = .returned (.tuple #[]) ∧ ∃ n os, w' = grow (putRow encStr (Sort.ahead w n) blk off (ss.mergeSort fun x y => decide (x ≤ y)).toArray) os := Any.slices_Sort_string Try.lays190 blk off cap ss w hH hblk hsz
def Try.laysNm220_ren : Go.Shelf.Ren := ⟨fun | 20 => 166 | n => n, fun | 22 => 52 | 3 => 3 | 4 => 4 | 0 => 0 | n => n, fun | n => n⟩
theorem Try.laysNm220 : Go.Proofs.Lays2.n20 Try.prog Try.laysNm220_ren := {
  mixed := by kernel_rfl
  f20 := Try.func166.trans (congrArg some (by kernel_rfl))
  t0 := Try.underlying0
  a0 := Try.isAgg0
  z0 := Try.sizeOf0
  v0 := Try.zeroValue0
  t3 := Try.underlying3
  a3 := Try.isAgg3
  z3 := Try.sizeOf3
  v3 := Try.zeroValue3
  t4 := Try.underlying4
  a4 := Try.isAgg4
  z4 := Try.sizeOf4
  v4 := Try.zeroValue4
  t22 := Try.underlying52
  a22 := Try.isAgg52
  z22 := Try.sizeOf52
  v22 := Try.zeroValue52
  i3 := by kernel_rfl }
open Go.RowKit Go.Lib Go.Sort in
theorem Try.slices_Compact_int (blk off cap : Nat) (zs : List Int) (w : World) (hH : Holds (Value.int .i64) w blk off zs.toArray) (hsz : zs.length ≤ 9223372036854775807) (hcap : zs.length ≤ cap) :
    Calls Try.prog 166 #[.slice (some ⟨blk, off, none⟩) zs.length cap] w fun e w' => e = .returned (.slice (some ⟨blk, off, none⟩) (Lib.compact zs).length cap) ∧ ∃ q, w' = putRow (Value.int .i64) (Sort.ahead w q) blk off (Lib.compact zs ++ List.replicate (zs.length - (Lib.compact zs).length) 0).toArray := Any.slices_Compact_int Try.laysNm220 blk off cap zs w hH hsz hcap
open Go.RowKit Go.Lib Go.Sort in
theorem Try.slices_Compact_int_empty (a : Option Addr) (cap : Nat) (w : World) :
    Calls Try.prog 166 #[.slice a 0 cap] w fun e w' => e = .returned (.slice a 0 cap) ∧ w' = w := Any.slices_Compact_int_empty Try.laysNm220 a cap w
def Try.lays194_ren : Go.Shelf.Ren := ⟨fun | 194 => 155 | n => n, fun | 31 => 24 | 9 => 9 | 3 => 3 | 4 => 4 | 0 => 0 | n => n, fun | n => n⟩
theorem Try.lays194 : Go.Proofs.Lays.n194 Try.prog Try.lays194_ren := {
  mixed := by kernel_rfl
  f194 := Try.func155.trans (congrArg some (by kernel_rfl))
  t0 := Try.underlying0
  a0 := Try.isAgg0
  z0 := Try.sizeOf0
  v0 := Try.zeroValue0
  t3 := Try.underlying3
  a3 := Try.isAgg3
  z3 := Try.sizeOf3
  v3 := Try.zeroValue3
  t4 := Try.underlying4
  a4 := Try.isAgg4
  z4 := Try.sizeOf4
  v4 := Try.zeroValue4
  t9 := Try.underlying9
  a9 := Try.isAgg9
  z9 := Try.sizeOf9
  v9 := Try.zeroValue9
  t31 := Try.underlying24
  a31 := Try.isAgg24
  z31 := Try.sizeOf24
  v31 := Try.zeroValue24 }
open Go.RowKit Go.Lib Go.Sort in
theorem Try.slices_Compact_string (blk off cap : Nat) (zs : List (List UInt8)) (w : World) (hH : Holds encStr w blk off zs.toArray) (hsz : zs.length ≤ 9223372036854775807) (hcap : zs.length ≤ cap) :
    Calls Try.prog 155 #[.slice (some ⟨blk, off, none⟩) zs.length cap] w fun e w' => e = .returned (.slice (some ⟨blk, off, none⟩) (Lib.compact zs).length cap) ∧ ∃ q, w' = putRow encStr (Sort.ahead w q) blk off (Lib.compact zs ++ List.replicate (zs.length - (Lib.compact zs).length) []).toArray := Any.slices_Compact_string Try.lays194 blk off cap zs w hH hsz hcap
open Go.RowKit Go.Lib Go.Sort in
theorem Try.slices_Compact_string_empty (a : Option Addr) (cap : Nat) (w : World) :
    Calls Try.prog 155 #[.slice a 0 cap] w fun e w' => e = .returned (.slice a 0 cap) ∧ w' = w := Any.slices_Compact_string_empty Try.lays194 a cap w
open Go.RowKit Go.Sort in
theorem Try.slices_Sort_string_none (p : Option Addr) (cap : Nat) (w : World) :
    Calls Try.prog 154 #[.slice p 0 cap] w fun e w' => e = .returned (.tuple #[]) ∧ w' = w := Any.slices_Sort_string_none Try.lays190 p cap w
open Go.RowKit Go.Sort in
theorem Try.slices_Sort_int_none (p : Option Addr) (cap : Nat) (w : World) :
    Calls Try.prog 165 #[.slice p 0 cap] w fun e w' => e = .returned (.tuple #[]) ∧ w' = w := Any.slices_Sort_int_none Try.lays189 p cap w
end Go.Proofs
