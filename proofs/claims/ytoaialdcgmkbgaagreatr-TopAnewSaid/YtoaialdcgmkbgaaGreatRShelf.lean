import Derived.Shelf.Sort.Plain
import Derived.Shelf.Slices.CompactI
import Derived.Shelf.Slices.In.SortNone
import Derived.Shelf.SlSortCmp.NoneTotal
import Derived.Test.YtoaialdcgmkbgaaGreatRProg

/-
 The library functions that TopShaped reaches, at this dump (written by the kit's lay-plain).
-/
namespace Go.Proofs
open Go.Shelf
def Tryz.lays189_ren : Go.Shelf.Ren := ⟨fun | 189 => 125 | 125 => 123 | 257 => 178 | 128 => 176 | 129 => 177 | 294 => 199 | 295 => 200 | 296 => 201 | 297 => 202 | 298 => 203 | 299 => 204 | 216 => 205 | 300 => 206 | 301 => 207 | 328 => 215 | 329 => 195 | 330 => 196 | 331 => 216 | 332 => 217 | 215 => 124 | 343 => 226 | n => n, fun | 28 => 147 | 3 => 3 | 46 => 223 | 0 => 0 | 51 => 52 | 53 => 276 | 4 => 4 | 183 => 269 | 182 => 268 | 131 => 257 | 5 => 5 | 9 => 9 | 218 => 294 | 222 => 298 | 228 => 308 | 229 => 38 | n => n, fun | n => n⟩
theorem Tryz.lays189 : Go.Proofs.Lays.n189 Tryz.prog Tryz.lays189_ren := {
 mixed := by kernel_rfl
 f125 := Tryz.func123.trans (congrArg some (by kernel_rfl))
 f128 := Tryz.func176.trans (congrArg some (by kernel_rfl))
 f129 := Tryz.func177.trans (congrArg some (by kernel_rfl))
 f189 := Tryz.func125.trans (congrArg some (by kernel_rfl))
 f215 := Tryz.func124.trans (congrArg some (by kernel_rfl))
 f216 := Tryz.func205.trans (congrArg some (by kernel_rfl))
 f257 := Tryz.func178.trans (congrArg some (by kernel_rfl))
 f294 := Tryz.func199.trans (congrArg some (by kernel_rfl))
 f295 := Tryz.func200.trans (congrArg some (by kernel_rfl))
 f296 := Tryz.func201.trans (congrArg some (by kernel_rfl))
 f297 := Tryz.func202.trans (congrArg some (by kernel_rfl))
 f298 := Tryz.func203.trans (congrArg some (by kernel_rfl))
 f299 := Tryz.func204.trans (congrArg some (by kernel_rfl))
 f300 := Tryz.func206.trans (congrArg some (by kernel_rfl))
 f301 := Tryz.func207.trans (congrArg some (by kernel_rfl))
 f328 := Tryz.func215.trans (congrArg some (by kernel_rfl))
 f329 := Tryz.func195.trans (congrArg some (by kernel_rfl))
 f330 := Tryz.func196.trans (congrArg some (by kernel_rfl))
 f331 := Tryz.func216.trans (congrArg some (by kernel_rfl))
 f332 := Tryz.func217.trans (congrArg some (by kernel_rfl))
 f343 := Tryz.func226.trans (congrArg some (by kernel_rfl))
 t0 := Tryz.underlying0
 a0 := Tryz.isAgg0
 z0 := Tryz.sizeOf0
 v0 := Tryz.zeroValue0
 t3 := Tryz.underlying3
 a3 := Tryz.isAgg3
 z3 := Tryz.sizeOf3
 v3 := Tryz.zeroValue3
 t4 := Tryz.underlying4
 a4 := Tryz.isAgg4
 z4 := Tryz.sizeOf4
 v4 := Tryz.zeroValue4
 t5 := Tryz.underlying5
 a5 := Tryz.isAgg5
 z5 := Tryz.sizeOf5
 v5 := Tryz.zeroValue5
 t9 := Tryz.underlying9
 a9 := Tryz.isAgg9
 z9 := Tryz.sizeOf9
 v9 := Tryz.zeroValue9
 t28 := Tryz.underlying147
 a28 := Tryz.isAgg147
 z28 := Tryz.sizeOf147
 v28 := Tryz.zeroValue147
 t46 := Tryz.underlying223
 a46 := Tryz.isAgg223
 z46 := Tryz.sizeOf223
 v46 := Tryz.zeroValue223
 t51 := Tryz.underlying52
 a51 := Tryz.isAgg52
 z51 := Tryz.sizeOf52
 v51 := Tryz.zeroValue52
 t53 := Tryz.underlying276
 a53 := Tryz.isAgg276
 z53 := Tryz.sizeOf276
 v53 := Tryz.zeroValue276
 t131 := Tryz.underlying257
 a131 := Tryz.isAgg257
 z131 := Tryz.sizeOf257
 v131 := Tryz.zeroValue257
 t182 := Tryz.underlying268
 a182 := Tryz.isAgg268
 z182 := Tryz.sizeOf268
 v182 := Tryz.zeroValue268
 t183 := Tryz.underlying269
 a183 := Tryz.isAgg269
 z183 := Tryz.sizeOf269
 v183 := Tryz.zeroValue269
 t218 := Tryz.underlying294
 a218 := Tryz.isAgg294
 z218 := Tryz.sizeOf294
 v218 := Tryz.zeroValue294
 t222 := Tryz.underlying298
 a222 := Tryz.isAgg298
 z222 := Tryz.sizeOf298
 v222 := Tryz.zeroValue298
 t228 := Tryz.underlying308
 a228 := Tryz.isAgg308
 z228 := Tryz.sizeOf308
 v228 := Tryz.zeroValue308
 t229 := Tryz.underlying38
 a229 := Tryz.isAgg38
 z229 := Tryz.sizeOf38
 v229 := Tryz.zeroValue38 }
open Go.Sort Go.RowKit in
theorem Tryz.slices_Sort_int (blk off cap : Nat) (zs : List Int) (w : World) (hH : Holds (Value.int .i64) w blk off zs.toArray) (hblk : blk < w.heap.size) (hsz : zs.length < 4611686018427387904) :
  Calls Tryz.prog 125 #[.slice (some ⟨blk, off, none⟩) zs.length cap] w fun e w' =>
   e = .returned (.tuple #[]) /\ ∃ n os, w' = grow (putRow (Value.int .i64) (Sort.ahead w n) blk off (zs.mergeSort fun x y => decide (x <= y)).toArray) os := Any.slices_Sort_int Tryz.lays189 blk off cap zs w hH hblk hsz
def Tryz.laysNm220_ren : Go.Shelf.Ren := ⟨fun | 20 => 126 | n => n, fun | 22 => 147 | 3 => 3 | 4 => 4 | 0 => 0 | n => n, fun | n => n⟩
theorem Tryz.laysNm220 : Go.Proofs.Lays2.n20 Tryz.prog Tryz.laysNm220_ren := {
 mixed := by kernel_rfl
 f20 := Tryz.func126.trans (congrArg some (by kernel_rfl))
 t0 := Tryz.underlying0
 a0 := Tryz.isAgg0
 z0 := Tryz.sizeOf0
 v0 := Tryz.zeroValue0
 t3 := Tryz.underlying3
 a3 := Tryz.isAgg3
 z3 := Tryz.sizeOf3
 v3 := Tryz.zeroValue3
 t4 := Tryz.underlying4
 a4 := Tryz.isAgg4
 z4 := Tryz.sizeOf4
 v4 := Tryz.zeroValue4
 t22 := Tryz.underlying147
 a22 := Tryz.isAgg147
 z22 := Tryz.sizeOf147
 v22 := Tryz.zeroValue147
 i3 := by kernel_rfl }
open Go.RowKit Go.Lib Go.Sort in
theorem Tryz.slices_Compact_int (blk off cap : Nat) (zs : List Int) (w : World) (hH : Holds (Value.int .i64) w blk off zs.toArray) (hsz : zs.length <= 9223372036854775807) (hcap : zs.length <= cap) :
  Calls Tryz.prog 126 #[.slice (some ⟨blk, off, none⟩) zs.length cap] w fun e w' => e = .returned (.slice (some ⟨blk, off, none⟩) (Lib.compact zs).length cap) /\ ∃ q, w' = putRow (Value.int .i64) (Sort.ahead w q) blk off (Lib.compact zs ++ List.replicate (zs.length - (Lib.compact zs).length) 0).toArray := Any.slices_Compact_int Tryz.laysNm220 blk off cap zs w hH hsz hcap
open Go.RowKit Go.Lib Go.Sort in
theorem Tryz.slices_Compact_int_empty (a : Option Addr) (cap : Nat) (w : World) :
  Calls Tryz.prog 126 #[.slice a 0 cap] w fun e w' => e = .returned (.slice a 0 cap) /\ w' = w := Any.slices_Compact_int_empty Tryz.laysNm220 a cap w
open Go.RowKit Go.Sort in
theorem Tryz.slices_Sort_int_none (p : Option Addr) (cap : Nat) (w : World) :
  Calls Tryz.prog 125 #[.slice p 0 cap] w fun e w' => e = .returned (.tuple #[]) /\ w' = w := Any.slices_Sort_int_none Tryz.lays189 p cap w
def Tryz.sortR_ren : Go.Shelf.Ren := ⟨fun | 6 => 59 | 15 => 123 | 14 => 122 | 28 => 176 | 29 => 177 | 20 => 168 | 21 => 169 | 22 => 170 | 23 => 171 | 24 => 172 | 25 => 173 | 26 => 174 | 27 => 175 | 46 => 194 | 47 => 195 | 48 => 196 | 49 => 197 | 50 => 198 | 57 => 214 | n => n, fun | 22 => 40 | 24 => 45 | 25 => 146 | 3 => 3 | 39 => 223 | 0 => 0 | 53 => 52 | 55 => 276 | 4 => 4 | 46 => 269 | 45 => 268 | 50 => 257 | 5 => 5 | 9 => 9 | 66 => 294 | 70 => 298 | 76 => 308 | 77 => 38 | n => n, fun | n => n⟩
theorem Tryz.sortR : Go.Proofs.SlLaysF0.n6 Tryz.prog Tryz.sortR_ren := {
 mixed := by kernel_rfl
 f6 := ⟨Tryz.f59.name, by decide, Tryz.func59.trans (congrArg some (by kernel_rfl))⟩
 f14 := ⟨Tryz.f122.name, by decide, Tryz.func122.trans (congrArg some (by kernel_rfl))⟩
 f15 := Tryz.func123.trans (congrArg some (by kernel_rfl))
 f20 := ⟨Tryz.f168.name, by decide, Tryz.func168.trans (congrArg some (by kernel_rfl))⟩
 f21 := ⟨Tryz.f169.name, by decide, Tryz.func169.trans (congrArg some (by kernel_rfl))⟩
 f22 := ⟨Tryz.f170.name, by decide, Tryz.func170.trans (congrArg some (by kernel_rfl))⟩
 f23 := ⟨Tryz.f171.name, by decide, Tryz.func171.trans (congrArg some (by kernel_rfl))⟩
 f24 := ⟨Tryz.f172.name, by decide, Tryz.func172.trans (congrArg some (by kernel_rfl))⟩
 f25 := ⟨Tryz.f173.name, by decide, Tryz.func173.trans (congrArg some (by kernel_rfl))⟩
 f26 := ⟨Tryz.f174.name, by decide, Tryz.func174.trans (congrArg some (by kernel_rfl))⟩
 f27 := ⟨Tryz.f175.name, by decide, Tryz.func175.trans (congrArg some (by kernel_rfl))⟩
 f28 := Tryz.func176.trans (congrArg some (by kernel_rfl))
 f29 := Tryz.func177.trans (congrArg some (by kernel_rfl))
 f46 := ⟨Tryz.f194.name, by decide, Tryz.func194.trans (congrArg some (by kernel_rfl))⟩
 f47 := Tryz.func195.trans (congrArg some (by kernel_rfl))
 f48 := Tryz.func196.trans (congrArg some (by kernel_rfl))
 f49 := ⟨Tryz.f197.name, by decide, Tryz.func197.trans (congrArg some (by kernel_rfl))⟩
 f50 := ⟨Tryz.f198.name, by decide, Tryz.func198.trans (congrArg some (by kernel_rfl))⟩
 f57 := ⟨Tryz.f214.name, by decide, Tryz.func214.trans (congrArg some (by kernel_rfl))⟩
 t0 := Tryz.underlying0
 a0 := Tryz.isAgg0
 z0 := Tryz.sizeOf0
 v0 := Tryz.zeroValue0
 t3 := Tryz.underlying3
 a3 := Tryz.isAgg3
 z3 := Tryz.sizeOf3
 v3 := Tryz.zeroValue3
 t4 := Tryz.underlying4
 a4 := Tryz.isAgg4
 z4 := Tryz.sizeOf4
 v4 := Tryz.zeroValue4
 t5 := Tryz.underlying5
 a5 := Tryz.isAgg5
 z5 := Tryz.sizeOf5
 v5 := Tryz.zeroValue5
 t9 := Tryz.underlying9
 a9 := Tryz.isAgg9
 z9 := Tryz.sizeOf9
 v9 := Tryz.zeroValue9
 t22 := Tryz.underlying40
 a22 := Tryz.isAgg40
 z22 := Tryz.sizeOf40
 v22 := Tryz.zeroValue40
 t25 := Tryz.underlying146
 a25 := Tryz.isAgg146
 z25 := Tryz.sizeOf146
 v25 := Tryz.zeroValue146
 t39 := Tryz.underlying223
 a39 := Tryz.isAgg223
 z39 := Tryz.sizeOf223
 v39 := Tryz.zeroValue223
 t45 := Tryz.underlying268
 a45 := Tryz.isAgg268
 z45 := Tryz.sizeOf268
 v45 := Tryz.zeroValue268
 t46 := Tryz.underlying269
 a46 := Tryz.isAgg269
 z46 := Tryz.sizeOf269
 v46 := Tryz.zeroValue269
 t50 := Tryz.underlying257
 a50 := Tryz.isAgg257
 z50 := Tryz.sizeOf257
 v50 := Tryz.zeroValue257
 t53 := Tryz.underlying52
 a53 := Tryz.isAgg52
 z53 := Tryz.sizeOf52
 v53 := Tryz.zeroValue52
 t55 := Tryz.underlying276
 a55 := Tryz.isAgg276
 z55 := Tryz.sizeOf276
 v55 := Tryz.zeroValue276
 t66 := Tryz.underlying294
 a66 := Tryz.isAgg294
 z66 := Tryz.sizeOf294
 v66 := Tryz.zeroValue294
 t70 := Tryz.underlying298
 a70 := Tryz.isAgg298
 z70 := Tryz.sizeOf298
 v70 := Tryz.zeroValue298
 t76 := Tryz.underlying308
 a76 := Tryz.isAgg308
 z76 := Tryz.sizeOf308
 v76 := Tryz.zeroValue308
 t77 := Tryz.underlying38
 a77 := Tryz.isAgg38
 z77 := Tryz.sizeOf38
 v77 := Tryz.zeroValue38 }
end Go.Proofs
