/- Contracts of the library functions Sort and Compact at this program, laid by the shelf. Conditions: as each says. -/
import Derived.Shelf.Sort.Plain
import Derived.Shelf.Slices.CompactS
import Derived.Shelf.Slices.In.SortNone
import Derived.Test.YtggopodnmepojaaChecked
namespace Go.Proofs
open Go.Shelf
def Try.lays190_ren : Go.Shelf.Ren := ⟨fun | 190 => 171 | 125 => 187 | 258 => 186 | 128 => 200 | 129 => 201 | 302 => 191 | 303 => 192 | 304 => 193 | 305 => 194 | 306 => 195 | 307 => 196 | 308 => 197 | 309 => 198 | 310 => 199 | 333 => 202 | 329 => 203 | 330 => 204 | 334 => 205 | 335 => 206 | 336 => 207 | 344 => 208 | n => n, fun | 31 => 43 | 9 => 9 | 3 => 3 | 46 => 194 | 0 => 0 | 51 => 206 | 53 => 208 | 4 => 4 | 183 => 199 | 182 => 198 | 131 => 169 | 5 => 5 | 218 => 209 | 222 => 213 | 228 => 215 | 229 => 216 | n => n, fun | n => n⟩
theorem Try.lays190 : Go.Proofs.Lays.n190 Try.prog Try.lays190_ren := {
  mixed := by kernel_rfl
  f125 := Try.func187.trans (congrArg some (by kernel_rfl))
  f128 := Try.func200.trans (congrArg some (by kernel_rfl))
  f129 := Try.func201.trans (congrArg some (by kernel_rfl))
  f190 := Try.func171.trans (congrArg some (by kernel_rfl))
  f258 := Try.func186.trans (congrArg some (by kernel_rfl))
  f302 := Try.func191.trans (congrArg some (by kernel_rfl))
  f303 := Try.func192.trans (congrArg some (by kernel_rfl))
  f304 := Try.func193.trans (congrArg some (by kernel_rfl))
  f305 := Try.func194.trans (congrArg some (by kernel_rfl))
  f306 := Try.func195.trans (congrArg some (by kernel_rfl))
  f307 := Try.func196.trans (congrArg some (by kernel_rfl))
  f308 := Try.func197.trans (congrArg some (by kernel_rfl))
  f309 := Try.func198.trans (congrArg some (by kernel_rfl))
  f310 := Try.func199.trans (congrArg some (by kernel_rfl))
  f329 := Try.func203.trans (congrArg some (by kernel_rfl))
  f330 := Try.func204.trans (congrArg some (by kernel_rfl))
  f333 := Try.func202.trans (congrArg some (by kernel_rfl))
  f334 := Try.func205.trans (congrArg some (by kernel_rfl))
  f335 := Try.func206.trans (congrArg some (by kernel_rfl))
  f336 := Try.func207.trans (congrArg some (by kernel_rfl))
  f344 := Try.func208.trans (congrArg some (by kernel_rfl))
  t0 := Try.underlying0
  a0 := Try.isAgg0
  z0 := Try.sizeOf0
  v0 := Try.zeroValue0
  t3 := Try.underlying3
  a3 := Try.isAgg3
  z3 := Try.sizeOf3
  v3 := Try.zeroValue3
  t4 := Try.underlying4
  a4 := Try.isAgg4
  z4 := Try.sizeOf4
  v4 := Try.zeroValue4
  t5 := Try.underlying5
  a5 := Try.isAgg5
  z5 := Try.sizeOf5
  v5 := Try.zeroValue5
  t9 := Try.underlying9
  a9 := Try.isAgg9
  z9 := Try.sizeOf9
  v9 := Try.zeroValue9
  t31 := Try.underlying43
  a31 := Try.isAgg43
  z31 := Try.sizeOf43
  v31 := Try.zeroValue43
  t46 := Try.underlying194
  a46 := Try.isAgg194
  z46 := Try.sizeOf194
  v46 := Try.zeroValue194
  t51 := Try.underlying206
  a51 := Try.isAgg206
  z51 := Try.sizeOf206
  v51 := Try.zeroValue206
  t53 := Try.underlying208
  a53 := Try.isAgg208
  z53 := Try.sizeOf208
  v53 := Try.zeroValue208
  t131 := Try.underlying169
  a131 := Try.isAgg169
  z131 := Try.sizeOf169
  v131 := Try.zeroValue169
  t182 := Try.underlying198
  a182 := Try.isAgg198
  z182 := Try.sizeOf198
  v182 := Try.zeroValue198
  t183 := Try.underlying199
  a183 := Try.isAgg199
  z183 := Try.sizeOf199
  v183 := Try.zeroValue199
  t218 := Try.underlying209
  a218 := Try.isAgg209
  z218 := Try.sizeOf209
  v218 := Try.zeroValue209
  t222 := Try.underlying213
  a222 := Try.isAgg213
  z222 := Try.sizeOf213
  v222 := Try.zeroValue213
  t228 := Try.underlying215
  a228 := Try.isAgg215
  z228 := Try.sizeOf215
  v228 := Try.zeroValue215
  t229 := Try.underlying216
  a229 := Try.isAgg216
  z229 := Try.sizeOf216
  v229 := Try.zeroValue216 }
open Go.Sort Go.RowKit in
theorem Try.slices_Sort_string (blk off cap : Nat) (ss : List (List UInt8)) (w : World) (hH : Holds encStr w blk off ss.toArray) (hblk : blk < w.heap.size) (hsz : ss.length < 4611686018427387904) :
    Calls Try.prog 171 #[.slice (some ⟨blk, off, none⟩) ss.length cap] w fun e w' =>
      e = .returned (.tuple #[]) ∧ ∃ n os, w' = grow (putRow encStr (Sort.ahead w n) blk off (ss.mergeSort fun x y => decide (x ≤ y)).toArray) os := Any.slices_Sort_string Try.lays190 blk off cap ss w hH hblk hsz
def Try.lays194_ren : Go.Shelf.Ren := ⟨fun | 194 => 172 | n => n, fun | 31 => 43 | 9 => 9 | 3 => 3 | 4 => 4 | 0 => 0 | n => n, fun | n => n⟩
theorem Try.lays194 : Go.Proofs.Lays.n194 Try.prog Try.lays194_ren := {
  mixed := by kernel_rfl
  f194 := Try.func172.trans (congrArg some (by kernel_rfl))
  t0 := Try.underlying0
  a0 := Try.isAgg0
  z0 := Try.sizeOf0
  v0 := Try.zeroValue0
  t3 := Try.underlying3
  a3 := Try.isAgg3
  z3 := Try.sizeOf3
  v3 := Try.zeroValue3
  t4 := Try.underlying4
  a4 := Try.isAgg4
  z4 := Try.sizeOf4
  v4 := Try.zeroValue4
  t9 := Try.underlying9
  a9 := Try.isAgg9
  z9 := Try.sizeOf9
  v9 := Try.zeroValue9
  t31 := Try.underlying43
  a31 := Try.isAgg43
  z31 := Try.sizeOf43
  v31 := Try.zeroValue43 }
open Go.RowKit Go.Lib Go.Sort in
theorem Try.slices_Compact_string (blk off cap : Nat) (zs : List (List UInt8)) (w : World) (hH : Holds encStr w blk off zs.toArray) (hsz : zs.length ≤ 9223372036854775807) (hcap : zs.length ≤ cap) :
    Calls Try.prog 172 #[.slice (some ⟨blk, off, none⟩) zs.length cap] w fun e w' => e = .returned (.slice (some ⟨blk, off, none⟩) (Lib.compact zs).length cap) ∧ ∃ q, w' = putRow encStr (Sort.ahead w q) blk off (Lib.compact zs ++ List.replicate (zs.length - (Lib.compact zs).length) []).toArray := Any.slices_Compact_string Try.lays194 blk off cap zs w hH hsz hcap
open Go.RowKit Go.Lib Go.Sort in
theorem Try.slices_Compact_string_empty (a : Option Addr) (cap : Nat) (w : World) :
    Calls Try.prog 172 #[.slice a 0 cap] w fun e w' => e = .returned (.slice a 0 cap) ∧ w' = w := Any.slices_Compact_string_empty Try.lays194 a cap w
open Go.RowKit Go.Sort in
theorem Try.slices_Sort_string_none (p : Option Addr) (cap : Nat) (w : World) :
    Calls Try.prog 171 #[.slice p 0 cap] w fun e w' => e = .returned (.tuple #[]) ∧ w' = w := Any.slices_Sort_string_none Try.lays190 p cap w
end Go.Proofs
