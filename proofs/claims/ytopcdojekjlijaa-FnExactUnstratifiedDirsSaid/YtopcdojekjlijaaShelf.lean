/- Contracts of the library functions Sort and Compact at this program, laid by the shelf. Conditions: as each says. -/
import Derived.Shelf.Sort.Plain
import Derived.Shelf.Slices.CompactS
import Derived.Shelf.Slices.In.SortNone
import Derived.Test.YtopcdojekjlijaaChecked
namespace Go.Proofs
open Go.Shelf
def Try.lays190_ren : Go.Shelf.Ren := ⟨fun | 190 => 179 | 125 => 182 | 258 => 181 | 128 => 192 | 129 => 193 | 302 => 183 | 303 => 184 | 304 => 185 | 305 => 186 | 306 => 187 | 307 => 188 | 308 => 189 | 309 => 190 | 310 => 191 | 333 => 194 | 329 => 195 | 330 => 196 | 334 => 197 | 335 => 198 | 336 => 199 | 344 => 200 | n => n, fun | 31 => 95 | 9 => 9 | 3 => 3 | 46 => 194 | 0 => 0 | 51 => 204 | 53 => 206 | 4 => 4 | 183 => 197 | 182 => 196 | 131 => 162 | 5 => 5 | 218 => 207 | 222 => 211 | 228 => 213 | 229 => 214 | n => n, fun | n => n⟩
theorem Try.lays190 : Go.Proofs.Lays.n190 Try.prog Try.lays190_ren := {
  mixed := by kernel_rfl
  f125 := Try.func182.trans (congrArg some (by kernel_rfl))
  f128 := Try.func192.trans (congrArg some (by kernel_rfl))
  f129 := Try.func193.trans (congrArg some (by kernel_rfl))
  f190 := Try.func179.trans (congrArg some (by kernel_rfl))
  f258 := Try.func181.trans (congrArg some (by kernel_rfl))
  f302 := Try.func183.trans (congrArg some (by kernel_rfl))
  f303 := Try.func184.trans (congrArg some (by kernel_rfl))
  f304 := Try.func185.trans (congrArg some (by kernel_rfl))
  f305 := Try.func186.trans (congrArg some (by kernel_rfl))
  f306 := Try.func187.trans (congrArg some (by kernel_rfl))
  f307 := Try.func188.trans (congrArg some (by kernel_rfl))
  f308 := Try.func189.trans (congrArg some (by kernel_rfl))
  f309 := Try.func190.trans (congrArg some (by kernel_rfl))
  f310 := Try.func191.trans (congrArg some (by kernel_rfl))
  f329 := Try.func195.trans (congrArg some (by kernel_rfl))
  f330 := Try.func196.trans (congrArg some (by kernel_rfl))
  f333 := Try.func194.trans (congrArg some (by kernel_rfl))
  f334 := Try.func197.trans (congrArg some (by kernel_rfl))
  f335 := Try.func198.trans (congrArg some (by kernel_rfl))
  f336 := Try.func199.trans (congrArg some (by kernel_rfl))
  f344 := Try.func200.trans (congrArg some (by kernel_rfl))
  t0 := Try.underlying0
  a0 := Try.isAgg0
  z0 := Try.sizeOf0
  v0 := Try.zeroValue0
  t3 := Try.underlying3
  a3 := Try.isAgg3
  z3 := Try.sizeOf3
  v3 := Try.zeroValue3
  t4 := Try.underlying4
  a4 := Try.isAgg4
  z4 := Try.sizeOf4
  v4 := Try.zeroValue4
  t5 := Try.underlying5
  a5 := Try.isAgg5
  z5 := Try.sizeOf5
  v5 := Try.zeroValue5
  t9 := Try.underlying9
  a9 := Try.isAgg9
  z9 := Try.sizeOf9
  v9 := Try.zeroValue9
  t31 := Try.underlying95
  a31 := Try.isAgg95
  z31 := Try.sizeOf95
  v31 := Try.zeroValue95
  t46 := Try.underlying194
  a46 := Try.isAgg194
  z46 := Try.sizeOf194
  v46 := Try.zeroValue194
  t51 := Try.underlying204
  a51 := Try.isAgg204
  z51 := Try.sizeOf204
  v51 := Try.zeroValue204
  t53 := Try.underlying206
  a53 := Try.isAgg206
  z53 := Try.sizeOf206
  v53 := Try.zeroValue206
  t131 := Try.underlying162
  a131 := Try.isAgg162
  z131 := Try.sizeOf162
  v131 := Try.zeroValue162
  t182 := Try.underlying196
  a182 := Try.isAgg196
  z182 := Try.sizeOf196
  v182 := Try.zeroValue196
  t183 := Try.underlying197
  a183 := Try.isAgg197
  z183 := Try.sizeOf197
  v183 := Try.zeroValue197
  t218 := Try.underlying207
  a218 := Try.isAgg207
  z218 := Try.sizeOf207
  v218 := Try.zeroValue207
  t222 := Try.underlying211
  a222 := Try.isAgg211
  z222 := Try.sizeOf211
  v222 := Try.zeroValue211
  t228 := Try.underlying213
  a228 := Try.isAgg213
  z228 := Try.sizeOf213
  v228 := Try.zeroValue213
  t229 := Try.underlying214
  a229 := Try.isAgg214
  z229 := Try.sizeOf214
  v229 := Try.zeroValue214 }
open Go.Sort Go.RowKit in
theorem Try.slices_Sort_string (blk off cap : Nat) (ss : List (List UInt8)) (w : World) (hH : Holds encStr w blk off ss.toArray) (hblk : blk < w.heap.size) (hsz : ss.length < 4611686018427387904) :
    Calls Try.prog 179 #[.slice (some ⟨blk, off, none⟩) ss.length cap] w fun e w' =>
      e = .returned (.tuple #[]) ∧ ∃ n os, w' = grow (putRow encStr (Sort.ahead w n) blk off (ss.mergeSort fun x y => decide (x ≤ y)).toArray) os := Any.slices_Sort_string Try.lays190 blk off cap ss w hH hblk hsz
def Try.lays194_ren : Go.Shelf.Ren := ⟨fun | 194 => 180 | n => n, fun | 31 => 95 | 9 => 9 | 3 => 3 | 4 => 4 | 0 => 0 | n => n, fun | n => n⟩
theorem Try.lays194 : Go.Proofs.Lays.n194 Try.prog Try.lays194_ren := {
  mixed := by kernel_rfl
  f194 := Try.func180.trans (congrArg some (by kernel_rfl))
  t0 := Try.underlying0
  a0 := Try.isAgg0
  z0 := Try.sizeOf0
  v0 := Try.zeroValue0
  t3 := Try.underlying3
  a3 := Try.isAgg3
  z3 := Try.sizeOf3
  v3 := Try.zeroValue3
  t4 := Try.underlying4
  a4 := Try.isAgg4
  z4 := Try.sizeOf4
  v4 := Try.zeroValue4
  t9 := Try.underlying9
  a9 := Try.isAgg9
  z9 := Try.sizeOf9
  v9 := Try.zeroValue9
  t31 := Try.underlying95
  a31 := Try.isAgg95
  z31 := Try.sizeOf95
  v31 := Try.zeroValue95 }
open Go.RowKit Go.Lib Go.Sort in
theorem Try.slices_Compact_string (blk off cap : Nat) (zs : List (List UInt8)) (w : World) (hH : Holds encStr w blk off zs.toArray) (hsz : zs.length ≤ 9223372036854775807) (hcap : zs.length ≤ cap) :
    Calls Try.prog 180 #[.slice (some ⟨blk, off, none⟩) zs.length cap] w fun e w' => e = .returned (.slice (some ⟨blk, off, none⟩) (Lib.compact zs).length cap) ∧ ∃ q, w' = putRow encStr (Sort.ahead w q) blk off (Lib.compact zs ++ List.replicate (zs.length - (Lib.compact zs).length) []).toArray := Any.slices_Compact_string Try.lays194 blk off cap zs w hH hsz hcap
open Go.RowKit Go.Lib Go.Sort in
theorem Try.slices_Compact_string_empty (a : Option Addr) (cap : Nat) (w : World) :
    Calls Try.prog 180 #[.slice a 0 cap] w fun e w' => e = .returned (.slice a 0 cap) ∧ w' = w := Any.slices_Compact_string_empty Try.lays194 a cap w
open Go.RowKit Go.Sort in
theorem Try.slices_Sort_string_none (p : Option Addr) (cap : Nat) (w : World) :
    Calls Try.prog 179 #[.slice p 0 cap] w fun e w' => e = .returned (.tuple #[]) ∧ w' = w := Any.slices_Sort_string_none Try.lays190 p cap w
end Go.Proofs
