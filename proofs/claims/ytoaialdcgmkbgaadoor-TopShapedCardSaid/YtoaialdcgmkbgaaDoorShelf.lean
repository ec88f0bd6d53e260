/-
  The library functions that TopShaped reaches, at this dump (written by the kit's lay-plain).
-/
import Derived.Shelf.Sort.Plain
import Derived.Shelf.Slices.CompactI
import Derived.Shelf.Slices.In.SortNone
import Derived.Shelf.SlSortCmp.NoneTotal
import Derived.Test.YtoaialdcgmkbgaaDoorProg
namespace Go.Proofs
open Go.Shelf
def Tryd.lays189_ren : Go.Shelf.Ren := ⟨fun | 189 => 52 | 125 => 50 | 257 => 79 | 128 => 77 | 129 => 78 | 294 => 86 | 295 => 87 | 296 => 88 | 297 => 89 | 298 => 90 | 299 => 91 | 216 => 92 | 300 => 93 | 301 => 94 | 328 => 97 | 329 => 82 | 330 => 83 | 331 => 98 | 332 => 99 | 215 => 51 | 343 => 101 | n => n, fun | 28 => 55 | 3 => 3 | 46 => 83 | 0 => 0 | 51 => 109 | 53 => 111 | 4 => 4 | 183 => 102 | 182 => 101 | 131 => 106 | 5 => 5 | 9 => 9 | 218 => 116 | 222 => 120 | 228 => 128 | 229 => 79 | n => n, fun | n => n⟩
theorem Tryd.lays189 : Go.Proofs.Lays.n189 Tryd.prog Tryd.lays189_ren := {
  mixed := by kernel_rfl
  f125 := Tryd.func50.trans (congrArg some (by kernel_rfl))
  f128 := Tryd.func77.trans (congrArg some (by kernel_rfl))
  f129 := Tryd.func78.trans (congrArg some (by kernel_rfl))
  f189 := Tryd.func52.trans (congrArg some (by kernel_rfl))
  f215 := Tryd.func51.trans (congrArg some (by kernel_rfl))
  f216 := Tryd.func92.trans (congrArg some (by kernel_rfl))
  f257 := Tryd.func79.trans (congrArg some (by kernel_rfl))
  f294 := Tryd.func86.trans (congrArg some (by kernel_rfl))
  f295 := Tryd.func87.trans (congrArg some (by kernel_rfl))
  f296 := Tryd.func88.trans (congrArg some (by kernel_rfl))
  f297 := Tryd.func89.trans (congrArg some (by kernel_rfl))
  f298 := Tryd.func90.trans (congrArg some (by kernel_rfl))
  f299 := Tryd.func91.trans (congrArg some (by kernel_rfl))
  f300 := Tryd.func93.trans (congrArg some (by kernel_rfl))
  f301 := Tryd.func94.trans (congrArg some (by kernel_rfl))
  f328 := Tryd.func97.trans (congrArg some (by kernel_rfl))
  f329 := Tryd.func82.trans (congrArg some (by kernel_rfl))
  f330 := Tryd.func83.trans (congrArg some (by kernel_rfl))
  f331 := Tryd.func98.trans (congrArg some (by kernel_rfl))
  f332 := Tryd.func99.trans (congrArg some (by kernel_rfl))
  f343 := Tryd.func101.trans (congrArg some (by kernel_rfl))
  t0 := Tryd.underlying0
  a0 := Tryd.isAgg0
  z0 := Tryd.sizeOf0
  v0 := Tryd.zeroValue0
  t3 := Tryd.underlying3
  a3 := Tryd.isAgg3
  z3 := Tryd.sizeOf3
  v3 := Tryd.zeroValue3
  t4 := Tryd.underlying4
  a4 := Tryd.isAgg4
  z4 := Tryd.sizeOf4
  v4 := Tryd.zeroValue4
  t5 := Tryd.underlying5
  a5 := Tryd.isAgg5
  z5 := Tryd.sizeOf5
  v5 := Tryd.zeroValue5
  t9 := Tryd.underlying9
  a9 := Tryd.isAgg9
  z9 := Tryd.sizeOf9
  v9 := Tryd.zeroValue9
  t28 := Tryd.underlying55
  a28 := Tryd.isAgg55
  z28 := Tryd.sizeOf55
  v28 := Tryd.zeroValue55
  t46 := Tryd.underlying83
  a46 := Tryd.isAgg83
  z46 := Tryd.sizeOf83
  v46 := Tryd.zeroValue83
  t51 := Tryd.underlying109
  a51 := Tryd.isAgg109
  z51 := Tryd.sizeOf109
  v51 := Tryd.zeroValue109
  t53 := Tryd.underlying111
  a53 := Tryd.isAgg111
  z53 := Tryd.sizeOf111
  v53 := Tryd.zeroValue111
  t131 := Tryd.underlying106
  a131 := Tryd.isAgg106
  z131 := Tryd.sizeOf106
  v131 := Tryd.zeroValue106
  t182 := Tryd.underlying101
  a182 := Tryd.isAgg101
  z182 := Tryd.sizeOf101
  v182 := Tryd.zeroValue101
  t183 := Tryd.underlying102
  a183 := Tryd.isAgg102
  z183 := Tryd.sizeOf102
  v183 := Tryd.zeroValue102
  t218 := Tryd.underlying116
  a218 := Tryd.isAgg116
  z218 := Tryd.sizeOf116
  v218 := Tryd.zeroValue116
  t222 := Tryd.underlying120
  a222 := Tryd.isAgg120
  z222 := Tryd.sizeOf120
  v222 := Tryd.zeroValue120
  t228 := Tryd.underlying128
  a228 := Tryd.isAgg128
  z228 := Tryd.sizeOf128
  v228 := Tryd.zeroValue128
  t229 := Tryd.underlying79
  a229 := Tryd.isAgg79
  z229 := Tryd.sizeOf79
  v229 := Tryd.zeroValue79 }
open Go.Sort Go.RowKit in
theorem Tryd.slices_Sort_int (blk off cap : Nat) (zs : List Int) (w : World) (hH : Holds (Value.int .i64) w blk off zs.toArray) (hblk : blk < w.heap.size) (hsz : zs.length < 4611686018427387904) :
    Calls Tryd.prog 52 #[.slice (some ⟨blk, off, none⟩) zs.length cap] w fun e w' =>
      e = .returned (.tuple #[]) ∧ ∃ n os, w' = grow (putRow (Value.int .i64) (Sort.ahead w n) blk off (zs.mergeSort fun x y => decide (x ≤ y)).toArray) os := Any.slices_Sort_int Tryd.lays189 blk off cap zs w hH hblk hsz
def Tryd.laysNm220_ren : Go.Shelf.Ren := ⟨fun | 20 => 53 | n => n, fun | 22 => 55 | 3 => 3 | 4 => 4 | 0 => 0 | n => n, fun | n => n⟩
theorem Tryd.laysNm220 : Go.Proofs.Lays2.n20 Tryd.prog Tryd.laysNm220_ren := {
  mixed := by kernel_rfl
  f20 := Tryd.func53.trans (congrArg some (by kernel_rfl))
  t0 := Tryd.underlying0
  a0 := Tryd.isAgg0
  z0 := Tryd.sizeOf0
  v0 := Tryd.zeroValue0
  t3 := Tryd.underlying3
  a3 := Tryd.isAgg3
  z3 := Tryd.sizeOf3
  v3 := Tryd.zeroValue3
  t4 := Tryd.underlying4
  a4 := Tryd.isAgg4
  z4 := Tryd.sizeOf4
  v4 := Tryd.zeroValue4
  t22 := Tryd.underlying55
  a22 := Tryd.isAgg55
  z22 := Tryd.sizeOf55
  v22 := Tryd.zeroValue55
  i3 := by kernel_rfl }
open Go.RowKit Go.Lib Go.Sort in
/-- slices.Compact at []int: "Compact replaces consecutive runs of equal elements with a single copy. This is like the uniq command found on Unix. Compact modifies the contents of the slice s and returns the modified slice, which may have a smaller length. Compact zeroes the elements between the new length and the original length. The result preserves the nilness of s.": IT RETURNS THE SLICE CUT TO 'Lib.compact zs'; ITS CELLS HOLD 'Lib.compact zs', THEN ZERO VALUES up to the old length; all else is as it was, but for the count of draws. IN THE WORDS OF slices.Sort's CONTRACT ('Holds', 'putRow'): so the everyday 'slices.Sort(xs); xs = slices.Compact(xs)' goes from the one contract to the other. It asks 'zs.length ≤ cap' (every slice's: the reslicing 's[:k]' looks at it). Length 0, nil: '.._empty'. (LAID: no walk: one application.) -/
theorem Tryd.slices_Compact_int (blk off cap : Nat) (zs : List Int) (w : World) (hH : Holds (Value.int .i64) w blk off zs.toArray) (hsz : zs.length ≤ 9223372036854775807) (hcap : zs.length ≤ cap) :
    Calls Tryd.prog 53 #[.slice (some ⟨blk, off, none⟩) zs.length cap] w fun e w' => e = .returned (.slice (some ⟨blk, off, none⟩) (Lib.compact zs).length cap) ∧ ∃ q, w' = putRow (Value.int .i64) (Sort.ahead w q) blk off (Lib.compact zs ++ List.replicate (zs.length - (Lib.compact zs).length) 0).toArray := Any.slices_Compact_int Tryd.laysNm220 blk off cap zs w hH hsz hcap
open Go.RowKit Go.Lib Go.Sort in
/-- The same at a slice of length 0, a nil one too: it comes back as it is. (LAID: no walk: one application.) -/
theorem Tryd.slices_Compact_int_empty (a : Option Addr) (cap : Nat) (w : World) :
    Calls Tryd.prog 53 #[.slice a 0 cap] w fun e w' => e = .returned (.slice a 0 cap) ∧ w' = w := Any.slices_Compact_int_empty Tryd.laysNm220 a cap w
open Go.RowKit Go.Sort in
/-- .. and plain. (LAID: no walk: one application.) -/
theorem Tryd.slices_Sort_int_none (p : Option Addr) (cap : Nat) (w : World) :
    Calls Tryd.prog 52 #[.slice p 0 cap] w fun e w' => e = .returned (.tuple #[]) ∧ w' = w := Any.slices_Sort_int_none Tryd.lays189 p cap w
def Tryd.sortR_ren : Go.Shelf.Ren := ⟨fun | 6 => 22 | 15 => 50 | 14 => 49 | 28 => 77 | 29 => 78 | 20 => 69 | 21 => 70 | 22 => 71 | 23 => 72 | 24 => 73 | 25 => 74 | 26 => 75 | 27 => 76 | 46 => 81 | 47 => 82 | 48 => 83 | 49 => 84 | 50 => 85 | 57 => 96 | n => n, fun | 22 => 22 | 24 => 25 | 25 => 54 | 3 => 3 | 39 => 83 | 0 => 0 | 53 => 109 | 55 => 111 | 4 => 4 | 46 => 102 | 45 => 101 | 50 => 106 | 5 => 5 | 9 => 9 | 66 => 116 | 70 => 120 | 76 => 128 | 77 => 79 | n => n, fun | n => n⟩
theorem Tryd.sortR : Go.Proofs.SlLaysF0.n6 Tryd.prog Tryd.sortR_ren := {
  mixed := by kernel_rfl
  f6 := ⟨Tryd.f22.name, by decide, Tryd.func22.trans (congrArg some (by kernel_rfl))⟩
  f14 := ⟨Tryd.f49.name, by decide, Tryd.func49.trans (congrArg some (by kernel_rfl))⟩
  f15 := Tryd.func50.trans (congrArg some (by kernel_rfl))
  f20 := ⟨Tryd.f69.name, by decide, Tryd.func69.trans (congrArg some (by kernel_rfl))⟩
  f21 := ⟨Tryd.f70.name, by decide, Tryd.func70.trans (congrArg some (by kernel_rfl))⟩
  f22 := ⟨Tryd.f71.name, by decide, Tryd.func71.trans (congrArg some (by kernel_rfl))⟩
  f23 := ⟨Tryd.f72.name, by decide, Tryd.func72.trans (congrArg some (by kernel_rfl))⟩
  f24 := ⟨Tryd.f73.name, by decide, Tryd.func73.trans (congrArg some (by kernel_rfl))⟩
  f25 := ⟨Tryd.f74.name, by decide, Tryd.func74.trans (congrArg some (by kernel_rfl))⟩
  f26 := ⟨Tryd.f75.name, by decide, Tryd.func75.trans (congrArg some (by kernel_rfl))⟩
  f27 := ⟨Tryd.f76.name, by decide, Tryd.func76.trans (congrArg some (by kernel_rfl))⟩
  f28 := Tryd.func77.trans (congrArg some (by kernel_rfl))
  f29 := Tryd.func78.trans (congrArg some (by kernel_rfl))
  f46 := ⟨Tryd.f81.name, by decide, Tryd.func81.trans (congrArg some (by kernel_rfl))⟩
  f47 := Tryd.func82.trans (congrArg some (by kernel_rfl))
  f48 := Tryd.func83.trans (congrArg some (by kernel_rfl))
  f49 := ⟨Tryd.f84.name, by decide, Tryd.func84.trans (congrArg some (by kernel_rfl))⟩
  f50 := ⟨Tryd.f85.name, by decide, Tryd.func85.trans (congrArg some (by kernel_rfl))⟩
  f57 := ⟨Tryd.f96.name, by decide, Tryd.func96.trans (congrArg some (by kernel_rfl))⟩
  t0 := Tryd.underlying0
  a0 := Tryd.isAgg0
  z0 := Tryd.sizeOf0
  v0 := Tryd.zeroValue0
  t3 := Tryd.underlying3
  a3 := Tryd.isAgg3
  z3 := Tryd.sizeOf3
  v3 := Tryd.zeroValue3
  t4 := Tryd.underlying4
  a4 := Tryd.isAgg4
  z4 := Tryd.sizeOf4
  v4 := Tryd.zeroValue4
  t5 := Tryd.underlying5
  a5 := Tryd.isAgg5
  z5 := Tryd.sizeOf5
  v5 := Tryd.zeroValue5
  t9 := Tryd.underlying9
  a9 := Tryd.isAgg9
  z9 := Tryd.sizeOf9
  v9 := Tryd.zeroValue9
  t22 := Tryd.underlying22
  a22 := Tryd.isAgg22
  z22 := Tryd.sizeOf22
  v22 := Tryd.zeroValue22
  t25 := Tryd.underlying54
  a25 := Tryd.isAgg54
  z25 := Tryd.sizeOf54
  v25 := Tryd.zeroValue54
  t39 := Tryd.underlying83
  a39 := Tryd.isAgg83
  z39 := Tryd.sizeOf83
  v39 := Tryd.zeroValue83
  t45 := Tryd.underlying101
  a45 := Tryd.isAgg101
  z45 := Tryd.sizeOf101
  v45 := Tryd.zeroValue101
  t46 := Tryd.underlying102
  a46 := Tryd.isAgg102
  z46 := Tryd.sizeOf102
  v46 := Tryd.zeroValue102
  t50 := Tryd.underlying106
  a50 := Tryd.isAgg106
  z50 := Tryd.sizeOf106
  v50 := Tryd.zeroValue106
  t53 := Tryd.underlying109
  a53 := Tryd.isAgg109
  z53 := Tryd.sizeOf109
  v53 := Tryd.zeroValue109
  t55 := Tryd.underlying111
  a55 := Tryd.isAgg111
  z55 := Tryd.sizeOf111
  v55 := Tryd.zeroValue111
  t66 := Tryd.underlying116
  a66 := Tryd.isAgg116
  z66 := Tryd.sizeOf116
  v66 := Tryd.zeroValue116
  t70 := Tryd.underlying120
  a70 := Tryd.isAgg120
  z70 := Tryd.sizeOf120
  v70 := Tryd.zeroValue120
  t76 := Tryd.underlying128
  a76 := Tryd.isAgg128
  z76 := Tryd.sizeOf128
  v76 := Tryd.zeroValue128
  t77 := Tryd.underlying79
  a77 := Tryd.isAgg79
  z77 := Tryd.sizeOf79
  v77 := Tryd.zeroValue79 }
end Go.Proofs
