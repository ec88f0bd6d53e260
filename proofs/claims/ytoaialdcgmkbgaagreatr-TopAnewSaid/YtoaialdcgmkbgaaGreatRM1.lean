import Derived.Test.YtoaialdcgmkbgaaGreatRCode3
import Derived.Test.YtoaialdcgmkbgaaGreatRA24

set_option linter.all false
namespace Go.Proofs
open Go.Shelf
def kB2 : Go.Shelf.Ren := ⟨fun | 5 => 165 | 7 => 192 | n => n, fun | 4 => 4 | 20 => 20 | 23 => 87 | 25 => 53 | 3 => 130 | n => n, fun n => n⟩
theorem kB3 : SlLaysW.n5 Tryz.prog kB2 := {
 mixed := by kernel_rfl
 f5 := ⟨Tryz.f165.name, by decide, Tryz.func165.trans (congrArg some (by kernel_rfl))⟩
 f7 := Tryz.func192.trans (congrArg some (by kernel_rfl))
 t4 := Tryz.underlying4
 a4 := Tryz.isAgg4
 z4 := Tryz.sizeOf4
 v4 := Tryz.zeroValue4
 t20 := Tryz.underlying20
 a20 := Tryz.isAgg20
 z20 := Tryz.sizeOf20
 v20 := Tryz.zeroValue20
 t23 := Tryz.underlying87
 a23 := Tryz.isAgg87
 z23 := Tryz.sizeOf87
 v23 := Tryz.zeroValue87 }
end Go.Proofs
namespace Go.AM
open Go Go.Proofs
theorem jw7 {kv : KV} (hne : kv ≠ []) : vT 165 [.mp (qI .u32 kv) (kZ kv)] [] (.ownm 0 0) [zf .u32 kv] :=
 jZ8 ⟨Tryz.f165, by kernel_rfl, by kernel_rfl, by kernel_rfl⟩ (fun b es clock w hb => AnyW.maps_Clone kB3 b es clock w hb) hne
end Go.AM
