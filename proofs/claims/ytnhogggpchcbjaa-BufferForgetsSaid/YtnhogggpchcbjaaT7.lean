
/- Chapter 54: what the library's functions come to. -/
import Derived.Test.YtnhogggpchcbjaaT6
import Derived.Lib.Strings
import Derived.Lib.Walk
import Derived.Lib.Bytealg
set_option linter.all false
namespace Go.AM
open Go Go.Proofs Go.RowKit

theorem Sp_of_calls {P : Program} {gt : Nat → Option (List D)} {f : Nat} {ds : List D} {d : D} (hok : okFn P f) (h : ∀ (K : Kn) (pl : Pl) (w : World) (vs : Array Value), RepL K pl ds vs.toList → Calls P f vs w fun e w' => ∃ v, e = .returned v ∧ w' = w ∧ Rep K pl d v) : Sp P gt f ds d := by
  refine ⟨hok, fun K pl w vs hmod hglob htab hrep => (h K pl w vs hrep).mono ?_⟩
  rintro e w' ⟨v, rfl, rfl, hr⟩
  exact ⟨v, K, pl, rfl, Inv.start hmod hglob htab, hr⟩
end Go.AM
namespace Go.Proofs
open Go.RowKit
set_option maxHeartbeats 1000000 in
set_option maxRecDepth 100000 in
theorem count_calls (s : ByteArray) (c : UInt8) (w : World) : Calls Try.prog 40 #[.string s, .string ⟨#[c]⟩] w fun e w' => e = .returned (.int .i64 (Lib.countByte s.data.toList c)) ∧ w' = w := by
  go_enter Try.func40, Try.ntmps40
  go_wp2
  rw [run_callFunc_extern Try.func51 (by kernel_rfl) (by kernel_rfl) (by kernel_rfl) (e := Extern.BytealgCount.count) (by kernel_rfl), Lib.run_countString]
  simp only [Result.andThen]
  rw [Oper.upon_value]
  go_wp2
  go_ret
  exact ⟨rfl, rfl⟩
set_option maxHeartbeats 1000000 in
set_option maxRecDepth 100000 in
theorem index_calls (s : ByteArray) (c : Int) (w : World) : Calls Try.prog 61 #[.string s, .int .u8 c] w fun e w' => e = .returned (.int .i64 (Lib.indexByte s.data.toList c.toNat.toUInt8)) ∧ w' = w := by
  go_enter Try.func61, Try.ntmps61
  go_wp2
  rw [run_callFunc_extern Try.func67 (by kernel_rfl) (by kernel_rfl) (by kernel_rfl) (e := Extern.BytealgIndexByte.indexByte) (by kernel_rfl), Lib.run_indexByteString]
  simp only [Result.andThen]
  rw [Oper.upon_value]
  go_wp2
  go_ret
  exact ⟨rfl, rfl⟩
end Go.Proofs
