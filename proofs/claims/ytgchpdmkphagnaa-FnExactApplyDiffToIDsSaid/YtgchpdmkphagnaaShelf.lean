/- Contracts of the library functions Sort and Compact at this program, laid by the shelf. Conditions: as each says. -/
import Derived.Shelf.Sort.Plain
import Derived.Ground.Names2Prog
import Derived.Shelf.Slices.CompactI
import Derived.Shelf.Slices.CompactS
import Derived.Shelf.Slices.In.SortNone
import Derived.Test.YtgchpdmkphagnaaChecked
namespace Go.Proofs
open Go.Shelf
def Try.lays189_ren : Go.Shelf.Ren := ⟨fun | 189 => 145 | 125 => 164 | 257 => 165 | 128 => 180 | 129 => 181 | 294 => 182 | 295 => 183 | 296 => 184 | 297 => 185 | 298 => 186 | 299 => 187 | 216 => 188 | 300 => 189 | 301 => 190 | 328 => 197 | 329 => 192 | 330 => 193 | 331 => 198 | 332 => 199 | 215 => 200 | 343 => 202 | n => n, fun | 28 => 73 | 3 => 3 | 46 => 176 | 0 => 0 | 51 => 193 | 53 => 195 | 4 => 4 | 183 => 186 | 182 => 185 | 131 => 169 | 5 => 5 | 9 => 9 | 218 => 202 | 222 => 206 | 228 => 210 | 229 => 211 | n => n, fun | n => n⟩
theorem Try.lays189 : Go.Proofs.Lays.n189 Try.prog Try.lays189_ren := {
  mixed := by kernel_rfl
  f125 := Try.func164.trans (congrArg some (by kernel_rfl))
  f128 := Try.func180.trans (congrArg some (by kernel_rfl))
  f129 := Try.func181.trans (congrArg some (by kernel_rfl))
  f189 := Try.func145.trans (congrArg some (by kernel_rfl))
  f215 := Try.func200.trans (congrArg some (by kernel_rfl))
  f216 := Try.func188.trans (congrArg some (by kernel_rfl))
  f257 := Try.func165.trans (congrArg some (by kernel_rfl))
  f294 := Try.func182.trans (congrArg some (by kernel_rfl))
  f295 := Try.func183.trans (congrArg some (by kernel_rfl))
  f296 := Try.func184.trans (congrArg some (by kernel_rfl))
  f297 := Try.func185.trans (congrArg some (by kernel_rfl))
  f298 := Try.func186.trans (congrArg some (by kernel_rfl))
  f299 := Try.func187.trans (congrArg some (by kernel_rfl))
  f300 := Try.func189.trans (congrArg some (by kernel_rfl))
  f301 := Try.func190.trans (congrArg some (by kernel_rfl))
  f328 := Try.func197.trans (congrArg some (by kernel_rfl))
  f329 := Try.func192.trans (congrArg some (by kernel_rfl))
  f330 := Try.func193.trans (congrArg some (by kernel_rfl))
  f331 := Try.func198.trans (congrArg some (by kernel_rfl))
  f332 := Try.func199.trans (congrArg some (by kernel_rfl))
  f343 := Try.func202.trans (congrArg some (by kernel_rfl))
  t0 := Try.underlying0
  a0 := Try.isAgg0
  z0 := Try.sizeOf0
  v0 := Try.zeroValue0
  t3 := Try.underlying3
  a3 := Try.isAgg3
  z3 := Try.sizeOf3
  v3 := Try.zeroValue3
  t4 := Try.underlying4
  a4 := Try.isAgg4
  z4 := Try.sizeOf4
  v4 := Try.zeroValue4
  t5 := Try.underlying5
  a5 := Try.isAgg5
  z5 := Try.sizeOf5
  v5 := Try.zeroValue5
  t9 := Try.underlying9
  a9 := Try.isAgg9
  z9 := Try.sizeOf9
  v9 := Try.zeroValue9
  t28 := Try.underlying73
  a28 := Try.isAgg73
  z28 := Try.sizeOf73
  v28 := Try.zeroValue73
  t46 := Try.underlying176
  a46 := Try.isAgg176
  z46 := Try.sizeOf176
  v46 := Try.zeroValue176
  t51 := Try.underlying193
  a51 := Try.isAgg193
  z51 := Try.sizeOf193
  v51 := Try.zeroValue193
  t53 := Try.underlying195
  a53 := Try.isAgg195
  z53 := Try.sizeOf195
  v53 := Try.zeroValue195
  t131 := Try.underlying169
  a131 := Try.isAgg169
  z131 := Try.sizeOf169
  v131 := Try.zeroValue169
  t182 := Try.underlying185
  a182 := Try.isAgg185
  z182 := Try.sizeOf185
  v182 := Try.zeroValue185
  t183 := Try.underlying186
  a183 := Try.isAgg186
  z183 := Try.sizeOf186
  v183 := Try.zeroValue186
  t218 := Try.underlying202
  a218 := Try.isAgg202
  z218 := Try.sizeOf202
  v218 := Try.zeroValue202
  t222 := Try.underlying206
  a222 := Try.isAgg206
  z222 := Try.sizeOf206
  v222 := Try.zeroValue206
  t228 := Try.underlying210
  a228 := Try.isAgg210
  z228 := Try.sizeOf210
  v228 := Try.zeroValue210
  t229 := Try.underlying211
  a229 := Try.isAgg211
  z229 := Try.sizeOf211
  v229 := Try.zeroValue211 }
open Go.Sort Go.RowKit in
theorem Try.slices_Sort_int (blk off cap : Nat) (zs : List Int) (w : World) (hH : Holds (Value.int .i64) w blk off zs.toArray) (hblk : blk < w.heap.size) (hsz : zs.length < 4611686018427387904) :
    Calls Try.prog 145 #[.slice (some ⟨blk, off, none⟩) zs.length cap] w fun e w' =>
      e = .returned (.tuple #[]) ∧ ∃ n os, w' = grow (putRow (Value.int .i64) (Sort.ahead w n) blk off (zs.mergeSort fun x y => decide (x ≤ y)).toArray) os := Any.slices_Sort_int Try.lays189 blk off cap zs w hH hblk hsz
def Try.lays190_ren : Go.Shelf.Ren := ⟨fun | 190 => 143 | 125 => 164 | 258 => 163 | 128 => 180 | 129 => 181 | 302 => 171 | 303 => 172 | 304 => 173 | 305 => 174 | 306 => 175 | 307 => 176 | 308 => 177 | 309 => 178 | 310 => 179 | 333 => 191 | 329 => 192 | 330 => 193 | 334 => 194 | 335 => 195 | 336 => 196 | 344 => 201 | n => n, fun | 31 => 24 | 9 => 9 | 3 => 3 | 46 => 176 | 0 => 0 | 51 => 193 | 53 => 195 | 4 => 4 | 183 => 186 | 182 => 185 | 131 => 169 | 5 => 5 | 218 => 202 | 222 => 206 | 228 => 210 | 229 => 211 | n => n, fun | n => n⟩
theorem Try.lays190 : Go.Proofs.Lays.n190 Try.prog Try.lays190_ren := {
  mixed := by kernel_rfl
  f125 := Try.func164.trans (congrArg some (by kernel_rfl))
  f128 := Try.func180.trans (congrArg some (by kernel_rfl))
  f129 := Try.func181.trans (congrArg some (by kernel_rfl))
  f190 := Try.func143.trans (congrArg some (by kernel_rfl))
  f258 := Try.func163.trans (congrArg some (by kernel_rfl))
  f302 := Try.func171.trans (congrArg some (by kernel_rfl))
  f303 := Try.func172.trans (congrArg some (by kernel_rfl))
  f304 := Try.func173.trans (congrArg some (by kernel_rfl))
  f305 := Try.func174.trans (congrArg some (by kernel_rfl))
  f306 := Try.func175.trans (congrArg some (by kernel_rfl))
  f307 := Try.func176.trans (congrArg some (by kernel_rfl))
  f308 := Try.func177.trans (congrArg some (by kernel_rfl))
  f309 := Try.func178.trans (congrArg some (by kernel_rfl))
  f310 := Try.func179.trans (congrArg some (by kernel_rfl))
  f329 := Try.func192.trans (congrArg some (by kernel_rfl))
  f330 := Try.func193.trans (congrArg some (by kernel_rfl))
  f333 := Try.func191.trans (congrArg some (by kernel_rfl))
  f334 := Try.func194.trans (congrArg some (by kernel_rfl))
  f335 := Try.func195.trans (congrArg some (by kernel_rfl))
  f336 := Try.func196.trans (congrArg some (by kernel_rfl))
  f344 := Try.func201.trans (congrArg some (by kernel_rfl))
  t0 := Try.underlying0
  a0 := Try.isAgg0
  z0 := Try.sizeOf0
  v0 := Try.zeroValue0
  t3 := Try.underlying3
  a3 := Try.isAgg3
  z3 := Try.sizeOf3
  v3 := Try.zeroValue3
  t4 := Try.underlying4
  a4 := Try.isAgg4
  z4 := Try.sizeOf4
  v4 := Try.zeroValue4
  t5 := Try.underlying5
  a5 := Try.isAgg5
  z5 := Try.sizeOf5
  v5 := Try.zeroValue5
  t9 := Try.underlying9
  a9 := Try.isAgg9
  z9 := Try.sizeOf9
  v9 := Try.zeroValue9
  t31 := Try.underlying24
  a31 := Try.isAgg24
  z31 := Try.sizeOf24
  v31 := Try.zeroValue24
  t46 := Try.underlying176
  a46 := Try.isAgg176
  z46 := Try.sizeOf176
  v46 := Try.zeroValue176
  t51 := Try.underlying193
  a51 := Try.isAgg193
  z51 := Try.sizeOf193
  v51 := Try.zeroValue193
  t53 := Try.underlying195
  a53 := Try.isAgg195
  z53 := Try.sizeOf195
  v53 := Try.zeroValue195
  t131 := Try.underlying169
  a131 := Try.isAgg169
  z131 := Try.sizeOf169
  v131 := Try.zeroValue169
  t182 := Try.underlying185
  a182 := Try.isAgg185
  z182 := Try.sizeOf185
  v182 := Try.zeroValue185
  t183 := Try.underlying186
  a183 := Try.isAgg186
  z183 := Try.sizeOf186
  v183 := Try.zeroValue186
  t218 := Try.underlying202
  a218 := Try.isAgg202
  z218 := Try.sizeOf202
  v218 := Try.zeroValue202
  t222 := Try.underlying206
  a222 := Try.isAgg206
  z222 := Try.sizeOf206
  v222 := Try.zeroValue206
  t228 := Try.underlying210
  a228 := Try.isAgg210
  z228 := Try.sizeOf210
  v228 := Try.zeroValue210
  t229 := Try.underlying211
  a229 := Try.isAgg211
  z229 := Try.sizeOf211
  v229 := Try.zeroValue211 }
open Go.Sort Go.RowKit in
theorem Try.slices_Sort_string (blk off cap : Nat) (ss : List (List UInt8)) (w : World) (hH : Holds encStr w blk off ss.toArray) (hblk : blk < w.heap.size) (hsz : ss.length < 4611686018427387904) :
    Calls Try.prog 143 #[.slice (some ⟨blk, off, none⟩) ss.length cap] w fun e w' =>
      e = .returned (.tuple #[]) ∧ ∃ n os, w' = grow (putRow encStr (Sort.ahead w n) blk off (ss.mergeSort fun x y => decide (x ≤ y)).toArray) os := Any.slices_Sort_string Try.lays190 blk off cap ss w hH hblk hsz
def Try.laysNm220_ren : Go.Shelf.Ren := ⟨fun | 20 => 146 | n => n, fun | 22 => 73 | 3 => 3 | 4 => 4 | 0 => 0 | n => n, fun | n => n⟩
theorem Try.laysNm220 : Go.Proofs.Lays2.n20 Try.prog Try.laysNm220_ren := {
  mixed := by kernel_rfl
  f20 := Try.func146.trans (congrArg some (by kernel_rfl))
  t0 := Try.underlying0
  a0 := Try.isAgg0
  z0 := Try.sizeOf0
  v0 := Try.zeroValue0
  t3 := Try.underlying3
  a3 := Try.isAgg3
  z3 := Try.sizeOf3
  v3 := Try.zeroValue3
  t4 := Try.underlying4
  a4 := Try.isAgg4
  z4 := Try.sizeOf4
  v4 := Try.zeroValue4
  t22 := Try.underlying73
  a22 := Try.isAgg73
  z22 := Try.sizeOf73
  v22 := Try.zeroValue73
  i3 := by kernel_rfl }
open Go.RowKit Go.Lib Go.Sort in
theorem Try.slices_Compact_int (blk off cap : Nat) (zs : List Int) (w : World) (hH : Holds (Value.int .i64) w blk off zs.toArray) (hsz : zs.length ≤ 9223372036854775807) (hcap : zs.length ≤ cap) :
    Calls Try.prog 146 #[.slice (some ⟨blk, off, none⟩) zs.length cap] w fun e w' => e = .returned (.slice (some ⟨blk, off, none⟩) (Lib.compact zs).length cap) ∧ ∃ q, w' = putRow (Value.int .i64) (Sort.ahead w q) blk off (Lib.compact zs ++ List.replicate (zs.length - (Lib.compact zs).length) 0).toArray := Any.slices_Compact_int Try.laysNm220 blk off cap zs w hH hsz hcap
open Go.RowKit Go.Lib Go.Sort in
theorem Try.slices_Compact_int_empty (a : Option Addr) (cap : Nat) (w : World) :
    Calls Try.prog 146 #[.slice a 0 cap] w fun e w' => e = .returned (.slice a 0 cap) ∧ w' = w := Any.slices_Compact_int_empty Try.laysNm220 a cap w
def Try.lays194_ren : Go.Shelf.Ren := ⟨fun | 194 => 144 | n => n, fun | 31 => 24 | 9 => 9 | 3 => 3 | 4 => 4 | 0 => 0 | n => n, fun | n => n⟩
theorem Try.lays194 : Go.Proofs.Lays.n194 Try.prog Try.lays194_ren := {
  mixed := by kernel_rfl
  f194 := Try.func144.trans (congrArg some (by kernel_rfl))
  t0 := Try.underlying0
  a0 := Try.isAgg0
  z0 := Try.sizeOf0
  v0 := Try.zeroValue0
  t3 := Try.underlying3
  a3 := Try.isAgg3
  z3 := Try.sizeOf3
  v3 := Try.zeroValue3
  t4 := Try.underlying4
  a4 := Try.isAgg4
  z4 := Try.sizeOf4
  v4 := Try.zeroValue4
  t9 := Try.underlying9
  a9 := Try.isAgg9
  z9 := Try.sizeOf9
  v9 := Try.zeroValue9
  t31 := Try.underlying24
  a31 := Try.isAgg24
  z31 := Try.sizeOf24
  v31 := Try.zeroValue24 }
open Go.RowKit Go.Lib Go.Sort in
theorem Try.slices_Compact_string (blk off cap : Nat) (zs : List (List UInt8)) (w : World) (hH : Holds encStr w blk off zs.toArray) (hsz : zs.length ≤ 9223372036854775807) (hcap : zs.length ≤ cap) :
    Calls Try.prog 144 #[.slice (some ⟨blk, off, none⟩) zs.length cap] w fun e w' => e = .returned (.slice (some ⟨blk, off, none⟩) (Lib.compact zs).length cap) ∧ ∃ q, w' = putRow encStr (Sort.ahead w q) blk off (Lib.compact zs ++ List.replicate (zs.length - (Lib.compact zs).length) []).toArray := Any.slices_Compact_string Try.lays194 blk off cap zs w hH hsz hcap
open Go.RowKit Go.Lib Go.Sort in
theorem Try.slices_Compact_string_empty (a : Option Addr) (cap : Nat) (w : World) :
    Calls Try.prog 144 #[.slice a 0 cap] w fun e w' => e = .returned (.slice a 0 cap) ∧ w' = w := Any.slices_Compact_string_empty Try.lays194 a cap w
open Go.RowKit Go.Sort in
theorem Try.slices_Sort_string_none (p : Option Addr) (cap : Nat) (w : World) :
    Calls Try.prog 143 #[.slice p 0 cap] w fun e w' => e = .returned (.tuple #[]) ∧ w' = w := Any.slices_Sort_string_none Try.lays190 p cap w
open Go.RowKit Go.Sort in
theorem Try.slices_Sort_int_none (p : Option Addr) (cap : Nat) (w : World) :
    Calls Try.prog 145 #[.slice p 0 cap] w fun e w' => e = .returned (.tuple #[]) ∧ w' = w := Any.slices_Sort_int_none Try.lays189 p cap w
end Go.Proofs
