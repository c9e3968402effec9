/-
  DERIVED: THE SHELF's CONTRACTS AT THIS DUMP, IN PLAIN WORDS (tools/lay-plain.mjs out of 'TryShelf.lean', which tools/lay-shelf.mjs wrote): THE SAME DECLARATIONS UNDER THE SAME NAMES: 'import', 'namespace', 'open', 'def', 'theorem' AND NOTHING ELSE: no command of the shelf's: FOR A HAND-IN. Each laying: the table of numbers ('.._ren') and one theorem, a field a fact of the dump's own or the kernel's comparison; each contract: ONE APPLICATION.
-/
import Derived.Shelf.Small.Bits
import Derived.Shelf.Strconv.Itoa0
import Derived.Shelf.Sort.Plain
import Derived.Shelf.Slices.In.SortNone
import Derived.Shelf.Slices.In.SortNone2
import Derived.Test.YtfjmopdkpcplmabProg
namespace Go.Proofs
open Go.Shelf
def Try.lays128_ren : Go.Shelf.Ren := ⟨fun | 128 => 53 | n => n, fun | 51 => 68 | 3 => 3 | 4 => 4 | 46 => 59 | 5 => 5 | 9 => 9 | n => n, fun | n => n⟩
theorem Try.lays128 : Go.Proofs.Lays.n128 Try.prog Try.lays128_ren := {
  mixed := by kernel_rfl
  f128 := Try.func53.trans (congrArg some (by kernel_rfl))
  t3 := Try.underlying3
  a3 := Try.isAgg3
  z3 := Try.sizeOf3
  v3 := Try.zeroValue3
  t4 := Try.underlying4
  a4 := Try.isAgg4
  z4 := Try.sizeOf4
  v4 := Try.zeroValue4
  t5 := Try.underlying5
  a5 := Try.isAgg5
  z5 := Try.sizeOf5
  v5 := Try.zeroValue5
  t9 := Try.underlying9
  a9 := Try.isAgg9
  z9 := Try.sizeOf9
  v9 := Try.zeroValue9
  t46 := Try.underlying59
  a46 := Try.isAgg59
  z46 := Try.sizeOf59
  v46 := Try.zeroValue59
  t51 := Try.underlying68
  a51 := Try.isAgg68
  z51 := Try.sizeOf68
  v51 := Try.zeroValue68 }
/-- bits.Len32: "Len32 returns the minimum number of bits required to represent x; the result is 0 for x == 0.": IT RETURNS 'Lib.bitLen x'; the world is as it was. ('h0', 'h1': x is a uint32.) (LAID: no walk: one application.) -/
theorem Try.bits_Len32 (x : Int) (w : World) (h0 : 0 ≤ x) (h1 : x ≤ 4294967295) :
    Calls Try.prog 53 #[.int .u32 x] w fun e w' => e = .returned (.int .i64 (Lib.bitLen x.toNat)) ∧ w' = w := Any.bits_Len32 Try.lays128 x w h0 h1
def Try.lays125_ren : Go.Shelf.Ren := ⟨fun | 125 => 41 | 128 => 53 | 129 => 54 | n => n, fun | 46 => 59 | 3 => 3 | 51 => 68 | 53 => 70 | 4 => 4 | 5 => 5 | 9 => 9 | n => n, fun | n => n⟩
theorem Try.lays125 : Go.Proofs.Lays.n125 Try.prog Try.lays125_ren := {
  mixed := by kernel_rfl
  f125 := Try.func41.trans (congrArg some (by kernel_rfl))
  f128 := Try.func53.trans (congrArg some (by kernel_rfl))
  f129 := Try.func54.trans (congrArg some (by kernel_rfl))
  t3 := Try.underlying3
  a3 := Try.isAgg3
  z3 := Try.sizeOf3
  v3 := Try.zeroValue3
  t4 := Try.underlying4
  a4 := Try.isAgg4
  z4 := Try.sizeOf4
  v4 := Try.zeroValue4
  t5 := Try.underlying5
  a5 := Try.isAgg5
  z5 := Try.sizeOf5
  v5 := Try.zeroValue5
  t9 := Try.underlying9
  a9 := Try.isAgg9
  z9 := Try.sizeOf9
  v9 := Try.zeroValue9
  t46 := Try.underlying59
  a46 := Try.isAgg59
  z46 := Try.sizeOf59
  v46 := Try.zeroValue59
  t51 := Try.underlying68
  a51 := Try.isAgg68
  z51 := Try.sizeOf68
  v51 := Try.zeroValue68
  t53 := Try.underlying70
  a53 := Try.isAgg70
  z53 := Try.sizeOf70
  v53 := Try.zeroValue70 }
/-- bits.Len: "Len returns the minimum number of bits required to represent x; the result is 0 for x == 0.": IT RETURNS 'Lib.bitLen x'; the world is as it was. (A uint has 64 bits in the model.) ITS CALLEE bits.Len64 IS MET BY ITS OWN CONTRACT OFF THE SHELF (lay that first). (LAID: no walk: one application.) -/
theorem Try.bits_Len (x : Int) (w : World) (h0 : 0 ≤ x) (h1 : x ≤ 18446744073709551615) :
    Calls Try.prog 41 #[.int .u64 x] w fun e w' => e = .returned (.int .i64 (Lib.bitLen x.toNat)) ∧ w' = w := Any.bits_Len Try.lays125 x w h0 h1
def Try.lays129_ren : Go.Shelf.Ren := ⟨fun | 129 => 54 | n => n, fun | 53 => 70 | 3 => 3 | 4 => 4 | 46 => 59 | 5 => 5 | 9 => 9 | n => n, fun | n => n⟩
theorem Try.lays129 : Go.Proofs.Lays.n129 Try.prog Try.lays129_ren := {
  mixed := by kernel_rfl
  f129 := Try.func54.trans (congrArg some (by kernel_rfl))
  t3 := Try.underlying3
  a3 := Try.isAgg3
  z3 := Try.sizeOf3
  v3 := Try.zeroValue3
  t4 := Try.underlying4
  a4 := Try.isAgg4
  z4 := Try.sizeOf4
  v4 := Try.zeroValue4
  t5 := Try.underlying5
  a5 := Try.isAgg5
  z5 := Try.sizeOf5
  v5 := Try.zeroValue5
  t9 := Try.underlying9
  a9 := Try.isAgg9
  z9 := Try.sizeOf9
  v9 := Try.zeroValue9
  t46 := Try.underlying59
  a46 := Try.isAgg59
  z46 := Try.sizeOf59
  v46 := Try.zeroValue59
  t53 := Try.underlying70
  a53 := Try.isAgg70
  z53 := Try.sizeOf70
  v53 := Try.zeroValue70 }
/-- bits.Len64: "Len64 returns the minimum number of bits required to represent x; the result is 0 for x == 0.": IT RETURNS 'Lib.bitLen x'; the world is as it was. ('h0', 'h1': x is a uint64.) (LAID: no walk: one application.) -/
theorem Try.bits_Len64 (x : Int) (w : World) (h0 : 0 ≤ x) (h1 : x ≤ 18446744073709551615) :
    Calls Try.prog 54 #[.int .u64 x] w fun e w' => e = .returned (.int .i64 (Lib.bitLen x.toNat)) ∧ w' = w := Any.bits_Len64 Try.lays129 x w h0 h1
def Try.lays190_ren : Go.Shelf.Ren := ⟨fun | 190 => 36 | 125 => 41 | 258 => 43 | 128 => 53 | 129 => 54 | 302 => 63 | 303 => 64 | 304 => 65 | 305 => 66 | 306 => 67 | 307 => 68 | 308 => 69 | 309 => 70 | 310 => 71 | 333 => 77 | 329 => 78 | 330 => 79 | 334 => 80 | 335 => 81 | 336 => 82 | 344 => 84 | n => n, fun | 31 => 33 | 9 => 9 | 3 => 3 | 46 => 59 | 0 => 0 | 51 => 68 | 53 => 70 | 4 => 4 | 183 => 81 | 182 => 80 | 131 => 77 | 5 => 5 | 218 => 92 | 222 => 90 | 228 => 98 | 229 => 96 | n => n, fun | n => n⟩
theorem Try.lays190 : Go.Proofs.Lays.n190 Try.prog Try.lays190_ren := {
  mixed := by kernel_rfl
  f125 := Try.func41.trans (congrArg some (by kernel_rfl))
  f128 := Try.func53.trans (congrArg some (by kernel_rfl))
  f129 := Try.func54.trans (congrArg some (by kernel_rfl))
  f190 := Try.func36.trans (congrArg some (by kernel_rfl))
  f258 := Try.func43.trans (congrArg some (by kernel_rfl))
  f302 := Try.func63.trans (congrArg some (by kernel_rfl))
  f303 := Try.func64.trans (congrArg some (by kernel_rfl))
  f304 := Try.func65.trans (congrArg some (by kernel_rfl))
  f305 := Try.func66.trans (congrArg some (by kernel_rfl))
  f306 := Try.func67.trans (congrArg some (by kernel_rfl))
  f307 := Try.func68.trans (congrArg some (by kernel_rfl))
  f308 := Try.func69.trans (congrArg some (by kernel_rfl))
  f309 := Try.func70.trans (congrArg some (by kernel_rfl))
  f310 := Try.func71.trans (congrArg some (by kernel_rfl))
  f329 := Try.func78.trans (congrArg some (by kernel_rfl))
  f330 := Try.func79.trans (congrArg some (by kernel_rfl))
  f333 := Try.func77.trans (congrArg some (by kernel_rfl))
  f334 := Try.func80.trans (congrArg some (by kernel_rfl))
  f335 := Try.func81.trans (congrArg some (by kernel_rfl))
  f336 := Try.func82.trans (congrArg some (by kernel_rfl))
  f344 := Try.func84.trans (congrArg some (by kernel_rfl))
  t0 := Try.underlying0
  a0 := Try.isAgg0
  z0 := Try.sizeOf0
  v0 := Try.zeroValue0
  t3 := Try.underlying3
  a3 := Try.isAgg3
  z3 := Try.sizeOf3
  v3 := Try.zeroValue3
  t4 := Try.underlying4
  a4 := Try.isAgg4
  z4 := Try.sizeOf4
  v4 := Try.zeroValue4
  t5 := Try.underlying5
  a5 := Try.isAgg5
  z5 := Try.sizeOf5
  v5 := Try.zeroValue5
  t9 := Try.underlying9
  a9 := Try.isAgg9
  z9 := Try.sizeOf9
  v9 := Try.zeroValue9
  t31 := Try.underlying33
  a31 := Try.isAgg33
  z31 := Try.sizeOf33
  v31 := Try.zeroValue33
  t46 := Try.underlying59
  a46 := Try.isAgg59
  z46 := Try.sizeOf59
  v46 := Try.zeroValue59
  t51 := Try.underlying68
  a51 := Try.isAgg68
  z51 := Try.sizeOf68
  v51 := Try.zeroValue68
  t53 := Try.underlying70
  a53 := Try.isAgg70
  z53 := Try.sizeOf70
  v53 := Try.zeroValue70
  t131 := Try.underlying77
  a131 := Try.isAgg77
  z131 := Try.sizeOf77
  v131 := Try.zeroValue77
  t182 := Try.underlying80
  a182 := Try.isAgg80
  z182 := Try.sizeOf80
  v182 := Try.zeroValue80
  t183 := Try.underlying81
  a183 := Try.isAgg81
  z183 := Try.sizeOf81
  v183 := Try.zeroValue81
  t218 := Try.underlying92
  a218 := Try.isAgg92
  z218 := Try.sizeOf92
  v218 := Try.zeroValue92
  t222 := Try.underlying90
  a222 := Try.isAgg90
  z222 := Try.sizeOf90
  v222 := Try.zeroValue90
  t228 := Try.underlying98
  a228 := Try.isAgg98
  z228 := Try.sizeOf98
  v228 := Try.zeroValue98
  t229 := Try.underlying96
  a229 := Try.isAgg96
  z229 := Try.sizeOf96
  v229 := Try.zeroValue96 }
open Go.Sort Go.RowKit in
theorem Try.slices_Sort_string (blk off cap : Nat) (ss : List (List UInt8)) (w : World) (hH : Holds encStr w blk off ss.toArray) (hblk : blk < w.heap.size) (hsz : ss.length < 4611686018427387904) :
    Calls Try.prog 36 #[.slice (some ⟨blk, off, none⟩) ss.length cap] w fun e w' =>
      e = .returned (.tuple #[]) ∧ ∃ n os, w' = grow (putRow encStr (Sort.ahead w n) blk off (ss.mergeSort fun x y => decide (x ≤ y)).toArray) os := Any.slices_Sort_string Try.lays190 blk off cap ss w hH hblk hsz
def Try.lays192_ren : Go.Shelf.Ren := ⟨fun | 192 => 32 | 190 => 36 | 125 => 41 | 258 => 43 | 128 => 53 | 129 => 54 | 302 => 63 | 303 => 64 | 304 => 65 | 305 => 66 | 306 => 67 | 307 => 68 | 308 => 69 | 309 => 70 | 310 => 71 | 333 => 77 | 329 => 78 | 330 => 79 | 334 => 80 | 335 => 81 | 336 => 82 | 344 => 84 | n => n, fun | 31 => 33 | 0 => 0 | 9 => 9 | 3 => 3 | 46 => 59 | 51 => 68 | 53 => 70 | 4 => 4 | 183 => 81 | 182 => 80 | 131 => 77 | 5 => 5 | 218 => 92 | 222 => 90 | 228 => 98 | 229 => 96 | n => n, fun | n => n⟩
theorem Try.lays192 : Go.Proofs.Lays.n192 Try.prog Try.lays192_ren := {
  mixed := by kernel_rfl
  f125 := Try.func41.trans (congrArg some (by kernel_rfl))
  f128 := Try.func53.trans (congrArg some (by kernel_rfl))
  f129 := Try.func54.trans (congrArg some (by kernel_rfl))
  f190 := Try.func36.trans (congrArg some (by kernel_rfl))
  f192 := Try.func32.trans (congrArg some (by kernel_rfl))
  f258 := Try.func43.trans (congrArg some (by kernel_rfl))
  f302 := Try.func63.trans (congrArg some (by kernel_rfl))
  f303 := Try.func64.trans (congrArg some (by kernel_rfl))
  f304 := Try.func65.trans (congrArg some (by kernel_rfl))
  f305 := Try.func66.trans (congrArg some (by kernel_rfl))
  f306 := Try.func67.trans (congrArg some (by kernel_rfl))
  f307 := Try.func68.trans (congrArg some (by kernel_rfl))
  f308 := Try.func69.trans (congrArg some (by kernel_rfl))
  f309 := Try.func70.trans (congrArg some (by kernel_rfl))
  f310 := Try.func71.trans (congrArg some (by kernel_rfl))
  f329 := Try.func78.trans (congrArg some (by kernel_rfl))
  f330 := Try.func79.trans (congrArg some (by kernel_rfl))
  f333 := Try.func77.trans (congrArg some (by kernel_rfl))
  f334 := Try.func80.trans (congrArg some (by kernel_rfl))
  f335 := Try.func81.trans (congrArg some (by kernel_rfl))
  f336 := Try.func82.trans (congrArg some (by kernel_rfl))
  f344 := Try.func84.trans (congrArg some (by kernel_rfl))
  t0 := Try.underlying0
  a0 := Try.isAgg0
  z0 := Try.sizeOf0
  v0 := Try.zeroValue0
  t3 := Try.underlying3
  a3 := Try.isAgg3
  z3 := Try.sizeOf3
  v3 := Try.zeroValue3
  t4 := Try.underlying4
  a4 := Try.isAgg4
  z4 := Try.sizeOf4
  v4 := Try.zeroValue4
  t5 := Try.underlying5
  a5 := Try.isAgg5
  z5 := Try.sizeOf5
  v5 := Try.zeroValue5
  t9 := Try.underlying9
  a9 := Try.isAgg9
  z9 := Try.sizeOf9
  v9 := Try.zeroValue9
  t31 := Try.underlying33
  a31 := Try.isAgg33
  z31 := Try.sizeOf33
  v31 := Try.zeroValue33
  t46 := Try.underlying59
  a46 := Try.isAgg59
  z46 := Try.sizeOf59
  v46 := Try.zeroValue59
  t51 := Try.underlying68
  a51 := Try.isAgg68
  z51 := Try.sizeOf68
  v51 := Try.zeroValue68
  t53 := Try.underlying70
  a53 := Try.isAgg70
  z53 := Try.sizeOf70
  v53 := Try.zeroValue70
  t131 := Try.underlying77
  a131 := Try.isAgg77
  z131 := Try.sizeOf77
  v131 := Try.zeroValue77
  t182 := Try.underlying80
  a182 := Try.isAgg80
  z182 := Try.sizeOf80
  v182 := Try.zeroValue80
  t183 := Try.underlying81
  a183 := Try.isAgg81
  z183 := Try.sizeOf81
  v183 := Try.zeroValue81
  t218 := Try.underlying92
  a218 := Try.isAgg92
  z218 := Try.sizeOf92
  v218 := Try.zeroValue92
  t222 := Try.underlying90
  a222 := Try.isAgg90
  z222 := Try.sizeOf90
  v222 := Try.zeroValue90
  t228 := Try.underlying98
  a228 := Try.isAgg98
  z228 := Try.sizeOf98
  v228 := Try.zeroValue98
  t229 := Try.underlying96
  a229 := Try.isAgg96
  z229 := Try.sizeOf96
  v229 := Try.zeroValue96 }
open Go.Sort Go.RowKit in
theorem Try.sort_Strings (blk off cap : Nat) (ss : List (List UInt8)) (w : World) (hH : Holds encStr w blk off ss.toArray) (hblk : blk < w.heap.size) (hsz : ss.length < 4611686018427387904) :
    Calls Try.prog 32 #[.slice (some ⟨blk, off, none⟩) ss.length cap] w fun e w' =>
      e = .returned (.tuple #[]) ∧ ∃ n os, w' = grow (putRow encStr (Sort.ahead w n) blk off (ss.mergeSort fun x y => decide (x ≤ y)).toArray) os := Any.sort_Strings Try.lays192 blk off cap ss w hH hblk hsz
open Go.RowKit Go.Sort in
/-- .. and plain. (LAID: no walk: one application.) -/
theorem Try.slices_Sort_string_none (p : Option Addr) (cap : Nat) (w : World) :
    Calls Try.prog 36 #[.slice p 0 cap] w fun e w' => e = .returned (.tuple #[]) ∧ w' = w := Any.slices_Sort_string_none Try.lays190 p cap w
open Go.RowKit Go.Sort in
/-- .. and plain. (LAID: no walk: one application.) -/
theorem Try.sort_Strings_none (p : Option Addr) (cap : Nat) (w : World) :
    Calls Try.prog 32 #[.slice p 0 cap] w fun e w' => e = .returned (.tuple #[]) ∧ w' = w := Any.sort_Strings_none Try.lays192 p cap w
end Go.Proofs
