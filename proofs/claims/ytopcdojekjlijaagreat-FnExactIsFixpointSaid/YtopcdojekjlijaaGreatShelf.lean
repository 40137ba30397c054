/- Contracts of the library functions Sort and Compact at this program, laid by the shelf. Conditions: as each says. -/
import Derived.Shelf.Sort.Plain
import Derived.Ground.Names2Prog
import Derived.Shelf.Slices.CompactS
import Derived.Shelf.Slices.In.SortNone
import Derived.Test.YtopcdojekjlijaaGreatChecked
namespace Go.Proofs
open Go.Shelf
def Tryz.lays190_ren : Go.Shelf.Ren := ⟨fun | 190 => 149 | 125 => 153 | 258 => 152 | 128 => 163 | 129 => 164 | 302 => 154 | 303 => 155 | 304 => 156 | 305 => 157 | 306 => 158 | 307 => 159 | 308 => 160 | 309 => 161 | 310 => 162 | 333 => 165 | 329 => 166 | 330 => 167 | 334 => 168 | 335 => 169 | 336 => 170 | 344 => 171 | n => n, fun | 31 => 72 | 9 => 9 | 3 => 3 | 46 => 176 | 0 => 0 | 51 => 186 | 53 => 188 | 4 => 4 | 183 => 179 | 182 => 178 | 131 => 164 | 5 => 5 | 218 => 189 | 222 => 193 | 228 => 195 | 229 => 196 | n => n, fun | n => n⟩
theorem Tryz.lays190 : Go.Proofs.Lays.n190 Tryz.prog Tryz.lays190_ren := {
  mixed := by kernel_rfl
  f125 := Tryz.func153.trans (congrArg some (by kernel_rfl))
  f128 := Tryz.func163.trans (congrArg some (by kernel_rfl))
  f129 := Tryz.func164.trans (congrArg some (by kernel_rfl))
  f190 := Tryz.func149.trans (congrArg some (by kernel_rfl))
  f258 := Tryz.func152.trans (congrArg some (by kernel_rfl))
  f302 := Tryz.func154.trans (congrArg some (by kernel_rfl))
  f303 := Tryz.func155.trans (congrArg some (by kernel_rfl))
  f304 := Tryz.func156.trans (congrArg some (by kernel_rfl))
  f305 := Tryz.func157.trans (congrArg some (by kernel_rfl))
  f306 := Tryz.func158.trans (congrArg some (by kernel_rfl))
  f307 := Tryz.func159.trans (congrArg some (by kernel_rfl))
  f308 := Tryz.func160.trans (congrArg some (by kernel_rfl))
  f309 := Tryz.func161.trans (congrArg some (by kernel_rfl))
  f310 := Tryz.func162.trans (congrArg some (by kernel_rfl))
  f329 := Tryz.func166.trans (congrArg some (by kernel_rfl))
  f330 := Tryz.func167.trans (congrArg some (by kernel_rfl))
  f333 := Tryz.func165.trans (congrArg some (by kernel_rfl))
  f334 := Tryz.func168.trans (congrArg some (by kernel_rfl))
  f335 := Tryz.func169.trans (congrArg some (by kernel_rfl))
  f336 := Tryz.func170.trans (congrArg some (by kernel_rfl))
  f344 := Tryz.func171.trans (congrArg some (by kernel_rfl))
  t0 := Tryz.underlying0
  a0 := Tryz.isAgg0
  z0 := Tryz.sizeOf0
  v0 := Tryz.zeroValue0
  t3 := Tryz.underlying3
  a3 := Tryz.isAgg3
  z3 := Tryz.sizeOf3
  v3 := Tryz.zeroValue3
  t4 := Tryz.underlying4
  a4 := Tryz.isAgg4
  z4 := Tryz.sizeOf4
  v4 := Tryz.zeroValue4
  t5 := Tryz.underlying5
  a5 := Tryz.isAgg5
  z5 := Tryz.sizeOf5
  v5 := Tryz.zeroValue5
  t9 := Tryz.underlying9
  a9 := Tryz.isAgg9
  z9 := Tryz.sizeOf9
  v9 := Tryz.zeroValue9
  t31 := Tryz.underlying72
  a31 := Tryz.isAgg72
  z31 := Tryz.sizeOf72
  v31 := Tryz.zeroValue72
  t46 := Tryz.underlying176
  a46 := Tryz.isAgg176
  z46 := Tryz.sizeOf176
  v46 := Tryz.zeroValue176
  t51 := Tryz.underlying186
  a51 := Tryz.isAgg186
  z51 := Tryz.sizeOf186
  v51 := Tryz.zeroValue186
  t53 := Tryz.underlying188
  a53 := Tryz.isAgg188
  z53 := Tryz.sizeOf188
  v53 := Tryz.zeroValue188
  t131 := Tryz.underlying164
  a131 := Tryz.isAgg164
  z131 := Tryz.sizeOf164
  v131 := Tryz.zeroValue164
  t182 := Tryz.underlying178
  a182 := Tryz.isAgg178
  z182 := Tryz.sizeOf178
  v182 := Tryz.zeroValue178
  t183 := Tryz.underlying179
  a183 := Tryz.isAgg179
  z183 := Tryz.sizeOf179
  v183 := Tryz.zeroValue179
  t218 := Tryz.underlying189
  a218 := Tryz.isAgg189
  z218 := Tryz.sizeOf189
  v218 := Tryz.zeroValue189
  t222 := Tryz.underlying193
  a222 := Tryz.isAgg193
  z222 := Tryz.sizeOf193
  v222 := Tryz.zeroValue193
  t228 := Tryz.underlying195
  a228 := Tryz.isAgg195
  z228 := Tryz.sizeOf195
  v228 := Tryz.zeroValue195
  t229 := Tryz.underlying196
  a229 := Tryz.isAgg196
  z229 := Tryz.sizeOf196
  v229 := Tryz.zeroValue196 }
open Go.Sort Go.RowKit in
theorem Tryz.slices_Sort_string (blk off cap : Nat) (ss : List (List UInt8)) (w : World) (hH : Holds encStr w blk off ss.toArray) (hblk : blk < w.heap.size) (hsz : ss.length < 4611686018427387904) :
    Calls Tryz.prog 149 #[.slice (some ⟨blk, off, none⟩) ss.length cap] w fun e w' =>
      e = .returned (.tuple #[]) ∧ ∃ n os, w' = grow (putRow encStr (Sort.ahead w n) blk off (ss.mergeSort fun x y => decide (x ≤ y)).toArray) os := Any.slices_Sort_string Tryz.lays190 blk off cap ss w hH hblk hsz
def Tryz.lays194_ren : Go.Shelf.Ren := ⟨fun | 194 => 150 | n => n, fun | 31 => 72 | 9 => 9 | 3 => 3 | 4 => 4 | 0 => 0 | n => n, fun | n => n⟩
theorem Tryz.lays194 : Go.Proofs.Lays.n194 Tryz.prog Tryz.lays194_ren := {
  mixed := by kernel_rfl
  f194 := Tryz.func150.trans (congrArg some (by kernel_rfl))
  t0 := Tryz.underlying0
  a0 := Tryz.isAgg0
  z0 := Tryz.sizeOf0
  v0 := Tryz.zeroValue0
  t3 := Tryz.underlying3
  a3 := Tryz.isAgg3
  z3 := Tryz.sizeOf3
  v3 := Tryz.zeroValue3
  t4 := Tryz.underlying4
  a4 := Tryz.isAgg4
  z4 := Tryz.sizeOf4
  v4 := Tryz.zeroValue4
  t9 := Tryz.underlying9
  a9 := Tryz.isAgg9
  z9 := Tryz.sizeOf9
  v9 := Tryz.zeroValue9
  t31 := Tryz.underlying72
  a31 := Tryz.isAgg72
  z31 := Tryz.sizeOf72
  v31 := Tryz.zeroValue72 }
open Go.RowKit Go.Lib Go.Sort in
theorem Tryz.slices_Compact_string (blk off cap : Nat) (zs : List (List UInt8)) (w : World) (hH : Holds encStr w blk off zs.toArray) (hsz : zs.length ≤ 9223372036854775807) (hcap : zs.length ≤ cap) :
    Calls Tryz.prog 150 #[.slice (some ⟨blk, off, none⟩) zs.length cap] w fun e w' => e = .returned (.slice (some ⟨blk, off, none⟩) (Lib.compact zs).length cap) ∧ ∃ q, w' = putRow encStr (Sort.ahead w q) blk off (Lib.compact zs ++ List.replicate (zs.length - (Lib.compact zs).length) []).toArray := Any.slices_Compact_string Tryz.lays194 blk off cap zs w hH hsz hcap
open Go.RowKit Go.Lib Go.Sort in
theorem Tryz.slices_Compact_string_empty (a : Option Addr) (cap : Nat) (w : World) :
    Calls Tryz.prog 150 #[.slice a 0 cap] w fun e w' => e = .returned (.slice a 0 cap) ∧ w' = w := Any.slices_Compact_string_empty Tryz.lays194 a cap w
open Go.RowKit Go.Sort in
theorem Tryz.slices_Sort_string_none (p : Option Addr) (cap : Nat) (w : World) :
    Calls Tryz.prog 149 #[.slice p 0 cap] w fun e w' => e = .returned (.tuple #[]) ∧ w' = w := Any.slices_Sort_string_none Tryz.lays190 p cap w
end Go.Proofs
