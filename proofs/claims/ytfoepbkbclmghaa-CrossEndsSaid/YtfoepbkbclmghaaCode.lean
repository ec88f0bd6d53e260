/- The functions' code, as the little machine has it (printed by Show.lean). -/
import Derived.Test.YtfoepbkbclmghaaA25
import Derived.Test.YtfoepbkbclmghaaProg
set_option linter.all false
namespace Go.AM
open Go Go.Proofs
theorem mixed : Try.prog.follows .mixedOrders = true := by kernel_rfl
def gtab : Nat → Option (List D) := fun _ => none
abbrev TSp := Sp Try.prog gtab
abbrev TSpM := SpM Try.prog gtab
abbrev TSpC := SpC Try.prog gtab
/-- glazier/glazierlaw36.awake -/
def c_law36_awake : C := .seq (.reg false [
  ⟨(some 0), none, .mv false (.c (.bool false)), none⟩] (some [])) (
.seq (.reg false [
  ⟨(some 6), none, .bsl none 5 1 none [(.c (.int .u8 0)), (.c (.int .u8 0)), (.c (.int .u8 1))], none⟩,
  ⟨(some 7), none, .call true 10 [(.t 6)], none⟩,
  ⟨(some 5), none, .mv false (.t 7), none⟩,
  ⟨(some 8), none, .ext (.t 5) 0, none⟩,
  ⟨(some 9), none, .ext (.t 5) 1, none⟩,
  ⟨(some 10), none, .ext (.t 5) 2, none⟩,
  ⟨(some 1), none, .alloc [(.mp [] []), (.mp [] [])], none⟩,
  ⟨none, none, .st (some 2) (.t 1) (.t 8), none⟩,
  ⟨(some 2), none, .mv false (.t 9), none⟩,
  ⟨(some 3), none, .mv false (.t 10), none⟩] (some [1, 3])) (
.seq (.reg true [
  ⟨(some 11), none, .ld (some 2) (.t 1), none⟩,
  ⟨(some 12), none, .call false 14 [(.c (.int .i64 3))], none⟩,
  ⟨(some 13), none, .call false 14 [(.c (.int .i64 2))], none⟩,
  ⟨(some 14), none, .call false 12 [(.t 11), (.t 12), (.t 13)], none⟩,
  ⟨(some 4), none, .mv false (.t 14), none⟩] (some [3, 4])) (
.seq (.reg true [
  ⟨(some 15), none, .mv false (.t 3), none⟩,
  ⟨(some 16), none, .mv false (.t 15), none⟩,
  ⟨(some 17), some (16, true), .mv false (.t 4), none⟩,
  ⟨(some 18), some (16, true), .len false (.t 17), none⟩,
  ⟨(some 19), some (16, true), .bin .eql .i64 (.t 18) (.c (.int .i64 3)), none⟩,
  ⟨(some 20), none, .pick (.t 16) (.t 19) (.c (.bool false)), none⟩,
  ⟨(some 21), none, .mv false (.t 20), none⟩,
  ⟨(some 22), some (21, true), .mv false (.t 4), none⟩,
  ⟨(some 23), some (21, true), .ixs 3 (.t 22) (.c (.int .i64 0)), none⟩,
  ⟨(some 24), some (21, true), .ld (some 3) (.t 23), none⟩,
  ⟨(some 25), some (21, true), .call false 14 [(.c (.int .i64 3))], none⟩,
  ⟨(some 26), some (21, true), .bld [(.int .u32 0), (.bool false), (.int .i64 0)] [(0, none, (.t 25)), (2, none, (.c (.int .i64 3)))], none⟩,
  ⟨(some 27), some (21, true), .eqS false [.i .u32, .b, .i .i64] (.t 24) (.t 26), none⟩,
  ⟨(some 28), none, .pick (.t 21) (.t 27) (.c (.bool false)), none⟩,
  ⟨(some 29), none, .mv false (.t 28), none⟩,
  ⟨(some 30), some (29, true), .mv false (.t 4), none⟩,
  ⟨(some 31), some (29, true), .ixs 3 (.t 30) (.c (.int .i64 1)), none⟩,
  ⟨(some 32), some (29, true), .ld (some 3) (.t 31), none⟩,
  ⟨(some 33), some (29, true), .call false 14 [(.c (.int .i64 1))], none⟩,
  ⟨(some 34), some (29, true), .bld [(.int .u32 0), (.bool false), (.int .i64 0)] [(0, none, (.t 33)), (2, none, (.c (.int .i64 4)))], none⟩,
  ⟨(some 35), some (29, true), .eqS false [.i .u32, .b, .i .i64] (.t 32) (.t 34), none⟩,
  ⟨(some 36), none, .pick (.t 29) (.t 35) (.c (.bool false)), none⟩,
  ⟨(some 37), none, .mv false (.t 36), none⟩,
  ⟨(some 38), some (37, true), .mv false (.t 4), none⟩,
  ⟨(some 39), some (37, true), .ixs 3 (.t 38) (.c (.int .i64 2)), none⟩,
  ⟨(some 40), some (37, true), .ld (some 3) (.t 39), none⟩,
  ⟨(some 41), some (37, true), .call false 14 [(.c (.int .i64 2))], none⟩,
  ⟨(some 42), some (37, true), .bld [(.int .u32 0), (.bool false), (.int .i64 0)] [(0, none, (.t 41)), (1, none, (.c (.bool true))), (2, none, (.c (.int .i64 3)))], none⟩,
  ⟨(some 43), some (37, true), .eqS false [.i .u32, .b, .i .i64] (.t 40) (.t 42), none⟩,
  ⟨(some 44), none, .pick (.t 37) (.t 43) (.c (.bool false)), none⟩,
  ⟨(some 0), none, .mv false (.t 44), none⟩] (some [0])) (
.ret))))
set_option maxRecDepth 1000000 in
theorem comp_law36_awake : (Try.f9.body.bind fun code => compC Try.prog Try.f9.ntmps code c_law36_awake) = some c_law36_awake.bare := by kernel_rfl
def r_law36_awake : List R := [.t 0]
theorem spo_law36_awake {ds : List D} {d : D} (hn : Nat.ble ds.length 45 = true) (h : run TSpC gtab 0 c_law36_awake (retK r_law36_awake (· = d)) ⟨env0 0 ds, []⟩) : TSp 9 ds d := Sp_of mixed c_law36_awake r_law36_awake (fn := Try.f9) (by kernel_rfl) (by kernel_rfl) comp_law36_awake (by kernel_rfl) hn h
theorem spm_law36_awake {ds : List D} {d : D} {bx bx' : List Ent} (hn : Nat.ble ds.length 45 = true) (h : run TSpC gtab (sizeE bx) c_law36_awake (retG r_law36_awake (fun d1 bx1 => Rt (sizeE bx) bx1 d1 d bx')) ⟨env0 0 ds, bx⟩) : TSpM 9 ds bx d bx' := SpM_of mixed c_law36_awake r_law36_awake (fn := Try.f9) (by kernel_rfl) (by kernel_rfl) comp_law36_awake (by kernel_rfl) hn h
/-- glazier/glazierlaw36.Made -/
def c_law36_Made : C := .seq (.reg false [
  ⟨(some 2), none, .alloc [(.mp [] []), (.mp [] [])], none⟩,
  ⟨(some 3), none, .nilS 56 2, none⟩,
  ⟨(some 4), none, .mv false (.c (.bool false)), none⟩] (some [0, 2])) (
.seq (.reg false [
  ⟨(some 13), none, .call false 18 [], none⟩,
  ⟨(some 5), none, .alloc [(.mp [] []), (.mp [] [])], none⟩,
  ⟨none, none, .st (some 2) (.t 5) (.t 13), none⟩] (some [0, 2, 5])) (
.seq (.reg false [
  ⟨(some 6), none, .nilS 56 2, none⟩] (some [0, 2, 5, 6])) (
.seq (.seq (.reg false [
  ⟨(some 14), none, .mv false (.t 0), none⟩,
  ⟨(some 15), none, .len false (.t 14), none⟩,
  ⟨(some 16), none, .mv false (.c (.int .i64 0)), none⟩] (some [2, 5, 6, 14, 15, 16])) (
.blk 0 (
  .loop (
    .seq (.reg false [
      ⟨(some 17), none, .bin .lss .i64 (.t 16) (.t 15), none⟩] (some [2, 5, 6, 14, 15, 16, 17])) (
    .seq (.ite (.t 17) (
      .skip) (
      .exit 0)) (
    .seq (.blk 1 (
      .seq (.reg false [
        ⟨(some 18), none, .mv false (.t 16), none⟩,
        ⟨(some 19), none, .ixs 1 (.t 14) (.t 16), none⟩,
        ⟨(some 20), none, .ld none (.t 19), none⟩,
        ⟨(some 7), none, .mv false (.t 18), none⟩,
        ⟨(some 8), none, .mv false (.t 20), none⟩] (some [2, 5, 6, 7, 8, 14, 15, 16])) (
      .seq (.reg true [
        ⟨(some 21), none, .mv false (.t 7), none⟩,
        ⟨(some 22), none, .bin .add .i64 (.t 21) (.c (.int .i64 1)), none⟩,
        ⟨(some 23), none, .call false 14 [(.t 22)], none⟩,
        ⟨(some 24), none, .mv false (.t 8), none⟩,
        ⟨(some 25), none, .conv .i64 (.t 24), none⟩,
        ⟨(some 26), none, .mv false (.t 7), none⟩,
        ⟨(some 27), none, .bin .add .i64 (.t 26) (.c (.int .i64 1)), none⟩,
        ⟨(some 28), none, .bin .rem .i64 (.t 25) (.t 27), none⟩,
        ⟨(some 29), none, .call false 14 [(.t 28)], none⟩,
        ⟨(some 9), none, .mv false (.t 23), none⟩,
        ⟨(some 10), none, .mv false (.t 29), none⟩] (some [2, 5, 6, 9, 10, 14, 15, 16])) (
      .seq (.reg false [
        ⟨(some 31), none, .ld (some 2) (.t 5), none⟩,
        ⟨(some 32), none, .mv false (.t 9), none⟩,
        ⟨(some 33), none, .mv false (.t 10), none⟩,
        ⟨(some 34), none, .call false 19 [(.t 31), (.t 32), (.t 33)], none⟩,
        ⟨(some 30), none, .mv false (.t 34), none⟩,
        ⟨(some 35), none, .ext (.t 30) 0, none⟩,
        ⟨(some 36), none, .ext (.t 30) 1, none⟩,
        ⟨(some 11), none, .alloc [(.mp [] []), (.mp [] [])], none⟩,
        ⟨none, none, .st (some 2) (.t 11) (.t 35), none⟩,
        ⟨(some 12), none, .mv false (.t 36), none⟩] (some [2, 5, 6, 9, 10, 11, 12, 14, 15, 16])) (
      .seq (.seq (.reg false [
        ⟨(some 37), none, .mv false (.t 12), none⟩,
        ⟨(some 38), none, .bin .neq .i64 (.t 37) (.c (.int .i64 0)), none⟩] (some [2, 5, 6, 9, 10, 11, 14, 15, 16, 38])) (
      .ite (.t 38) (
        .seq (.reg false [
          ⟨(some 39), none, .ld (some 2) (.t 5), none⟩,
          ⟨(some 40), none, .mv false (.t 6), none⟩,
          ⟨none, none, .st (some 2) (.t 2) (.t 39), none⟩,
          ⟨(some 3), none, .mv false (.t 40), none⟩,
          ⟨(some 4), none, .mv false (.c (.bool false)), none⟩] (some [2, 3, 4])) (
        .ret)) (
        .skip))) (
      .reg true [
        ⟨(some 41), none, .ld (some 2) (.t 11), (some [4])⟩,
        ⟨(some 42), none, .mv false (.t 6), none⟩,
        ⟨(some 43), none, .mv false (.t 9), none⟩,
        ⟨(some 44), none, .mv false (.t 10), none⟩,
        ⟨(some 45), none, .bld [(.int .u32 0), (.int .u32 0)] [(0, none, (.t 43)), (1, none, (.t 44))], none⟩,
        ⟨(some 46), none, .bsl none 56 2 (some 2) [(.t 45)], none⟩,
        ⟨(some 47), none, .app 56 2 8 (.t 42) (.t 46), (some [3])⟩,
        ⟨none, none, .st (some 2) (.t 5) (.t 41), none⟩,
        ⟨(some 6), none, .mv false (.t 47), none⟩] (some [2, 5, 6, 14, 15, 16]))))))) (
    .reg false [
      ⟨(some 48), none, .bin .add .i64 (.t 16) (.c (.int .i64 1)), none⟩,
      ⟨(some 16), none, .mv false (.t 48), none⟩] (some [2, 5, 6, 14, 15, 16])))))))) (
.seq (.reg false [
  ⟨(some 49), none, .ld (some 2) (.t 5), none⟩,
  ⟨(some 50), none, .mv false (.t 6), none⟩,
  ⟨none, none, .st (some 2) (.t 2) (.t 49), none⟩,
  ⟨(some 3), none, .mv false (.t 50), none⟩,
  ⟨(some 4), none, .mv false (.c (.bool true)), none⟩] (some [2, 3, 4])) (
.ret)))))
set_option maxRecDepth 1000000 in
theorem comp_law36_Made : (Try.f10.body.bind fun code => compC Try.prog Try.f10.ntmps code c_law36_Made) = some c_law36_Made.bare := by kernel_rfl
def r_law36_Made : List R := [.cell 2 (some 2), .t 3, .t 4]
theorem spo_law36_Made {ds : List D} {d : D} (hn : Nat.ble ds.length 51 = true) (h : run TSpC gtab 0 c_law36_Made (retK r_law36_Made (· = d)) ⟨env0 0 ds, []⟩) : TSp 10 ds d := Sp_of mixed c_law36_Made r_law36_Made (fn := Try.f10) (by kernel_rfl) (by kernel_rfl) comp_law36_Made (by kernel_rfl) hn h
theorem spm_law36_Made {ds : List D} {d : D} {bx bx' : List Ent} (hn : Nat.ble ds.length 51 = true) (h : run TSpC gtab (sizeE bx) c_law36_Made (retG r_law36_Made (fun d1 bx1 => Rt (sizeE bx) bx1 d1 d bx')) ⟨env0 0 ds, bx⟩) : TSpM 10 ds bx d bx' := SpM_of mixed c_law36_Made r_law36_Made (fn := Try.f10) (by kernel_rfl) (by kernel_rfl) comp_law36_Made (by kernel_rfl) hn h
/-- glazier/glazierlaw36.Same -/
def c_law36_Same : C := .seq (.reg false [
  ⟨(some 4), none, .mv false (.c (.bool false)), none⟩] (some [0, 1])) (
.seq (.seq (.reg false [
  ⟨(some 6), none, .mv false (.t 0), none⟩,
  ⟨(some 7), none, .len false (.t 6), none⟩,
  ⟨(some 8), none, .mv false (.t 1), none⟩,
  ⟨(some 9), none, .len false (.t 8), none⟩,
  ⟨(some 10), none, .bin .neq .i64 (.t 7) (.t 9), none⟩] (some [0, 1, 10])) (
.ite (.t 10) (
  .seq (.reg false [
    ⟨(some 4), none, .mv false (.c (.bool false)), none⟩] (some [4])) (
  .ret)) (
  .skip))) (
.seq (.seq (.reg false [
  ⟨(some 11), none, .mv false (.t 0), none⟩,
  ⟨(some 12), none, .len false (.t 11), none⟩,
  ⟨(some 13), none, .mv false (.c (.int .i64 0)), none⟩] (some [0, 1, 12, 13])) (
.blk 0 (
  .loop (
    .seq (.reg false [
      ⟨(some 14), none, .bin .lss .i64 (.t 13) (.t 12), none⟩] (some [0, 1, 12, 13, 14])) (
    .seq (.ite (.t 14) (
      .skip) (
      .exit 0)) (
    .seq (.blk 1 (
      .seq (.reg false [
        ⟨(some 15), none, .mv false (.t 13), none⟩,
        ⟨(some 5), none, .mv false (.t 15), none⟩] (some [0, 1, 5, 12, 13])) (
      .seq (.reg true [
        ⟨(some 16), none, .mv false (.t 0), none⟩,
        ⟨(some 17), none, .mv false (.t 5), none⟩,
        ⟨(some 18), none, .ixs 3 (.t 16) (.t 17), none⟩,
        ⟨(some 19), none, .ld (some 3) (.t 18), none⟩,
        ⟨(some 20), none, .mv false (.t 1), none⟩,
        ⟨(some 21), none, .mv false (.t 5), none⟩,
        ⟨(some 22), none, .ixs 3 (.t 20) (.t 21), none⟩,
        ⟨(some 23), none, .ld (some 3) (.t 22), none⟩,
        ⟨(some 24), none, .eqS true [.i .u32, .b, .i .i64] (.t 19) (.t 23), none⟩] (some [0, 1, 12, 13, 24])) (
      .ite (.t 24) (
        .seq (.reg false [
          ⟨(some 4), none, .mv false (.c (.bool false)), none⟩] (some [4])) (
        .ret)) (
        .skip))))) (
    .reg false [
      ⟨(some 25), none, .bin .add .i64 (.t 13) (.c (.int .i64 1)), none⟩,
      ⟨(some 13), none, .mv false (.t 25), none⟩] (some [0, 1, 12, 13])))))))) (
.seq (.reg false [
  ⟨(some 4), none, .mv false (.c (.bool true)), none⟩] (some [4])) (
.ret))))
set_option maxRecDepth 1000000 in
theorem comp_law36_Same : (Try.f11.body.bind fun code => compC Try.prog Try.f11.ntmps code c_law36_Same) = some c_law36_Same.bare := by kernel_rfl
def r_law36_Same : List R := [.t 4]
theorem spo_law36_Same {ds : List D} {d : D} (hn : Nat.ble ds.length 26 = true) (h : run TSpC gtab 0 c_law36_Same (retK r_law36_Same (· = d)) ⟨env0 0 ds, []⟩) : TSp 11 ds d := Sp_of mixed c_law36_Same r_law36_Same (fn := Try.f11) (by kernel_rfl) (by kernel_rfl) comp_law36_Same (by kernel_rfl) hn h
theorem spm_law36_Same {ds : List D} {d : D} {bx bx' : List Ent} (hn : Nat.ble ds.length 26 = true) (h : run TSpC gtab (sizeE bx) c_law36_Same (retG r_law36_Same (fun d1 bx1 => Rt (sizeE bx) bx1 d1 d bx')) ⟨env0 0 ds, bx⟩) : TSpM 11 ds bx d bx' := SpM_of mixed c_law36_Same r_law36_Same (fn := Try.f11) (by kernel_rfl) (by kernel_rfl) comp_law36_Same (by kernel_rfl) hn h
/-- glazier/cross.Path -/
def c_cross_Path : C := .seq (.reg false [
  ⟨(some 3), none, .box true (.t 0), none⟩,
  ⟨(some 6), none, .nilS 42 3, none⟩] (some [1, 2, 3])) (
.seq (.reg false [
  ⟨(some 7), none, .alloc [(.bsl 42 0 3 0)], none⟩] (some [1, 2, 3, 7])) (
.seq (.reg false [
  ⟨(some 13), none, .clo 20 [(.t 7)], none⟩,
  ⟨(some 8), none, .mv false (.t 13), none⟩] (some [1, 2, 3, 7, 8])) (
.seq (.seq (.reg false [
  ⟨(some 14), none, .mv false (.t 1), none⟩,
  ⟨(some 15), none, .mv false (.t 2), none⟩,
  ⟨(some 16), none, .bin .eql .u32 (.t 14) (.t 15), none⟩] (some [1, 2, 3, 7, 8, 16])) (
.ite (.t 16) (
  .seq (.reg false [
    ⟨(some 6), none, .nilS 42 3, none⟩] (some [6])) (
  .ret)) (
  .skip))) (
.seq (.reg true [
  ⟨(some 17), none, .ld (some 2) (.t 3), none⟩,
  ⟨(some 18), none, .mv false (.t 1), none⟩,
  ⟨(some 19), none, .call false 21 [(.t 17), (.t 18)], none⟩,
  ⟨(some 20), none, .ld (some 2) (.t 3), none⟩,
  ⟨(some 21), none, .mv false (.t 2), none⟩,
  ⟨(some 22), none, .call false 21 [(.t 20), (.t 21)], none⟩,
  ⟨(some 9), none, .mv false (.t 19), none⟩,
  ⟨(some 10), none, .mv false (.t 22), none⟩] (some [1, 2, 3, 7, 8, 9, 10])) (
.seq (.reg false [
  ⟨(some 24), none, .ld (some 2) (.t 3), none⟩,
  ⟨(some 25), none, .mv false (.t 1), none⟩,
  ⟨(some 26), none, .mv false (.t 2), none⟩,
  ⟨(some 27), none, .call false 22 [(.t 24), (.t 25), (.t 26)], none⟩,
  ⟨(some 23), none, .mv false (.t 27), none⟩,
  ⟨(some 28), none, .ext (.t 23) 0, none⟩,
  ⟨(some 29), none, .ext (.t 23) 1, none⟩,
  ⟨(some 11), none, .mv false (.t 28), none⟩,
  ⟨(some 12), none, .mv false (.t 29), none⟩] (some [1, 2, 7, 8, 9, 10, 11, 12])) (
.seq (.blk 0 (
  .seq (.reg false [
    ⟨(some 49), none, .mv false (.t 12), none⟩,
    ⟨(some 50), none, .not (.t 49), none⟩,
    ⟨(some 48), none, .mv false (.t 50), none⟩] (some [1, 2, 7, 8, 9, 10, 11, 48])) (
  .ite (.t 48) (
    .seq (.seq (.reg false [
      ⟨(some 51), none, .mv false (.t 9), none⟩,
      ⟨(some 52), none, .len false (.t 51), none⟩,
      ⟨(some 53), none, .bin .gtr .i64 (.t 52) (.c (.int .i64 0)), none⟩] (some [1, 2, 7, 8, 9, 10, 53])) (
    .ite (.t 53) (
      .seq (.reg false [
        ⟨(some 54), none, .mv false (.t 8), none⟩,
        ⟨(some 55), none, .mv false (.t 1), none⟩,
        ⟨(some 56), none, .bld [(.int .u32 0), (.bool false), (.int .i64 0)] [(0, none, (.t 55)), (1, none, (.c (.bool false))), (2, none, (.c (.int .i64 3)))], none⟩,
        ⟨(some 57), none, .callv true (.t 54) [(.t 56)], none⟩] (some [2, 7, 8, 9, 10])) (
      .reg false [
        ⟨(some 58), none, .mv false (.t 9), none⟩,
        ⟨(some 59), none, .call false 24 [(.t 58), (.c (.int .u32 0))], none⟩,
        ⟨(some 60), none, .mv false (.t 8), none⟩,
        ⟨(some 61), none, .call true 23 [(.t 59), (.c (.bool false)), (.c (.int .i64 4)), (.t 60)], none⟩] (some [2, 7, 8, 10]))) (
      .skip))) (
    .seq (.reg false [
      ⟨(some 62), none, .mv false (.t 10), none⟩,
      ⟨(some 63), none, .len false (.t 62), none⟩,
      ⟨(some 64), none, .bin .gtr .i64 (.t 63) (.c (.int .i64 0)), none⟩] (some [2, 7, 8, 10, 64])) (
    .ite (.t 64) (
      .seq (.reg false [
        ⟨(some 65), none, .mv false (.t 10), none⟩,
        ⟨(some 66), none, .call false 24 [(.t 65), (.c (.int .u32 0))], none⟩,
        ⟨(some 67), none, .mv false (.t 8), none⟩,
        ⟨(some 68), none, .call true 25 [(.t 66), (.c (.bool true)), (.c (.int .i64 4)), (.t 67)], none⟩] (some [2, 7, 8])) (
      .reg false [
        ⟨(some 69), none, .mv false (.t 8), none⟩,
        ⟨(some 70), none, .mv false (.t 2), none⟩,
        ⟨(some 71), none, .bld [(.int .u32 0), (.bool false), (.int .i64 0)] [(0, none, (.t 70)), (1, none, (.c (.bool true))), (2, none, (.c (.int .i64 3)))], none⟩,
        ⟨(some 72), none, .callv true (.t 69) [(.t 71)], none⟩] (some [7]))) (
      .skip)))) (
    .seq (.reg false [
      ⟨(some 74), none, .mv false (.t 11), none⟩,
      ⟨(some 75), none, .mv false (.t 1), none⟩,
      ⟨(some 76), none, .bin .eql .u32 (.t 74) (.t 75), none⟩,
      ⟨(some 73), none, .mv false (.t 76), none⟩] (some [1, 2, 7, 8, 9, 10, 11, 73])) (
    .ite (.t 73) (
      .seq (.reg false [
        ⟨(some 77), none, .mv false (.t 8), none⟩,
        ⟨(some 78), none, .mv false (.t 1), none⟩,
        ⟨(some 79), none, .bld [(.int .u32 0), (.bool false), (.int .i64 0)] [(0, none, (.t 78)), (1, none, (.c (.bool false))), (2, none, (.c (.int .i64 2)))], none⟩,
        ⟨(some 80), none, .callv true (.t 77) [(.t 79)], none⟩] (some [1, 2, 7, 8, 10])) (
      .seq (.reg false [
        ⟨(some 81), none, .mv false (.t 10), none⟩,
        ⟨(some 82), none, .mv false (.t 1), none⟩,
        ⟨(some 83), none, .call false 24 [(.t 81), (.t 82)], none⟩,
        ⟨(some 84), none, .mv false (.t 8), none⟩,
        ⟨(some 85), none, .call true 25 [(.t 83), (.c (.bool true)), (.c (.int .i64 1)), (.t 84)], none⟩] (some [2, 7, 8])) (
      .reg false [
        ⟨(some 86), none, .mv false (.t 8), none⟩,
        ⟨(some 87), none, .mv false (.t 2), none⟩,
        ⟨(some 88), none, .bld [(.int .u32 0), (.bool false), (.int .i64 0)] [(0, none, (.t 87)), (1, none, (.c (.bool true))), (2, none, (.c (.int .i64 0)))], none⟩,
        ⟨(some 89), none, .callv true (.t 86) [(.t 88)], none⟩] (some [7])))) (
      .seq (.reg false [
        ⟨(some 91), none, .mv false (.t 11), none⟩,
        ⟨(some 92), none, .mv false (.t 2), none⟩,
        ⟨(some 93), none, .bin .eql .u32 (.t 91) (.t 92), none⟩,
        ⟨(some 90), none, .mv false (.t 93), none⟩] (some [1, 2, 7, 8, 9, 10, 11, 90])) (
      .ite (.t 90) (
        .seq (.reg false [
          ⟨(some 94), none, .mv false (.t 8), none⟩,
          ⟨(some 95), none, .mv false (.t 1), none⟩,
          ⟨(some 96), none, .bld [(.int .u32 0), (.bool false), (.int .i64 0)] [(0, none, (.t 95)), (1, none, (.c (.bool false))), (2, none, (.c (.int .i64 0)))], none⟩,
          ⟨(some 97), none, .callv true (.t 94) [(.t 96)], none⟩] (some [2, 7, 8, 9])) (
        .seq (.reg false [
          ⟨(some 98), none, .mv false (.t 9), none⟩,
          ⟨(some 99), none, .mv false (.t 2), none⟩,
          ⟨(some 100), none, .call false 24 [(.t 98), (.t 99)], none⟩,
          ⟨(some 101), none, .mv false (.t 8), none⟩,
          ⟨(some 102), none, .call true 23 [(.t 100), (.c (.bool false)), (.c (.int .i64 1)), (.t 101)], none⟩] (some [2, 7, 8])) (
        .reg false [
          ⟨(some 103), none, .mv false (.t 8), none⟩,
          ⟨(some 104), none, .mv false (.t 2), none⟩,
          ⟨(some 105), none, .bld [(.int .u32 0), (.bool false), (.int .i64 0)] [(0, none, (.t 104)), (1, none, (.c (.bool true))), (2, none, (.c (.int .i64 2)))], none⟩,
          ⟨(some 106), none, .callv true (.t 103) [(.t 105)], none⟩] (some [7])))) (
        .seq (.reg false [
          ⟨(some 30), none, .mv false (.t 8), none⟩,
          ⟨(some 31), none, .mv false (.t 1), none⟩,
          ⟨(some 32), none, .bld [(.int .u32 0), (.bool false), (.int .i64 0)] [(0, none, (.t 31)), (1, none, (.c (.bool false))), (2, none, (.c (.int .i64 3)))], none⟩,
          ⟨(some 33), none, .callv true (.t 30) [(.t 32)], none⟩] (some [2, 7, 8, 9, 10, 11])) (
        .seq (.reg false [
          ⟨(some 34), none, .mv false (.t 9), none⟩,
          ⟨(some 35), none, .mv false (.t 11), none⟩,
          ⟨(some 36), none, .call false 24 [(.t 34), (.t 35)], none⟩,
          ⟨(some 37), none, .mv false (.t 8), none⟩,
          ⟨(some 38), none, .call true 23 [(.t 36), (.c (.bool false)), (.c (.int .i64 4)), (.t 37)], none⟩] (some [2, 7, 8, 10, 11])) (
        .seq (.reg false [
          ⟨(some 39), none, .mv false (.t 10), none⟩,
          ⟨(some 40), none, .mv false (.t 11), none⟩,
          ⟨(some 41), none, .call false 24 [(.t 39), (.t 40)], none⟩,
          ⟨(some 42), none, .mv false (.t 8), none⟩,
          ⟨(some 43), none, .call true 25 [(.t 41), (.c (.bool true)), (.c (.int .i64 4)), (.t 42)], none⟩] (some [2, 7, 8])) (
        .reg false [
          ⟨(some 44), none, .mv false (.t 8), none⟩,
          ⟨(some 45), none, .mv false (.t 2), none⟩,
          ⟨(some 46), none, .bld [(.int .u32 0), (.bool false), (.int .i64 0)] [(0, none, (.t 45)), (1, none, (.c (.bool true))), (2, none, (.c (.int .i64 3)))], none⟩,
          ⟨(some 47), none, .callv true (.t 44) [(.t 46)], none⟩] (some [7])))))))))))) (
.seq (.reg false [
  ⟨(some 107), none, .ld none (.t 7), none⟩,
  ⟨(some 6), none, .mv false (.t 107), none⟩] (some [6])) (
.ret))))))))
set_option maxRecDepth 1000000 in
theorem comp_cross_Path : (Try.f12.body.bind fun code => compC Try.prog Try.f12.ntmps code c_cross_Path) = some c_cross_Path.bare := by kernel_rfl
def r_cross_Path : List R := [.t 6]
theorem spo_cross_Path {ds : List D} {d : D} (hn : Nat.ble ds.length 108 = true) (h : run TSpC gtab 0 c_cross_Path (retK r_cross_Path (· = d)) ⟨env0 0 ds, []⟩) : TSp 12 ds d := Sp_of mixed c_cross_Path r_cross_Path (fn := Try.f12) (by kernel_rfl) (by kernel_rfl) comp_cross_Path (by kernel_rfl) hn h
theorem spm_cross_Path {ds : List D} {d : D} {bx bx' : List Ent} (hn : Nat.ble ds.length 108 = true) (h : run TSpC gtab (sizeE bx) c_cross_Path (retG r_cross_Path (fun d1 bx1 => Rt (sizeE bx) bx1 d1 d bx')) ⟨env0 0 ds, bx⟩) : TSpM 12 ds bx d bx' := SpM_of mixed c_cross_Path r_cross_Path (fn := Try.f12) (by kernel_rfl) (by kernel_rfl) comp_cross_Path (by kernel_rfl) hn h
/-- glazier/glazierref36.Path -/
def c_ref36_Path : C := .seq (.reg false [
  ⟨(some 6), none, .nilS 57 3, none⟩] (some [0, 1, 2])) (
.seq (.reg false [
  ⟨(some 16), none, .mv false (.t 0), none⟩,
  ⟨(some 17), none, .mv false (.t 1), none⟩,
  ⟨(some 18), none, .call false 15 [(.t 16), (.t 17)], none⟩,
  ⟨(some 19), none, .mv false (.t 0), none⟩,
  ⟨(some 20), none, .mv false (.t 2), none⟩,
  ⟨(some 21), none, .call false 15 [(.t 19), (.t 20)], none⟩,
  ⟨(some 7), none, .mv false (.t 18), none⟩,
  ⟨(some 8), none, .mv false (.t 21), none⟩] (some [1, 2, 7, 8])) (
.seq (.seq (.reg false [
  ⟨(some 22), none, .mv false (.t 1), none⟩,
  ⟨(some 23), none, .mv false (.t 2), none⟩,
  ⟨(some 24), none, .bin .eql .u32 (.t 22) (.t 23), none⟩,
  ⟨(some 25), none, .mv false (.t 24), none⟩,
  ⟨(some 26), some (25, false), .mv false (.t 7), none⟩,
  ⟨(some 27), some (25, false), .len false (.t 26), none⟩,
  ⟨(some 28), some (25, false), .bin .eql .i64 (.t 27) (.c (.int .i64 0)), none⟩,
  ⟨(some 29), some (25, false), .mv false (.t 28), none⟩,
  ⟨(some 30), some (29, true), .mv false (.t 8), none⟩,
  ⟨(some 31), some (29, true), .len false (.t 30), none⟩,
  ⟨(some 32), some (29, true), .bin .eql .i64 (.t 31) (.c (.int .i64 0)), none⟩,
  ⟨(some 33), some (25, false), .pick (.t 29) (.t 32) (.c (.bool false)), none⟩,
  ⟨(some 34), none, .pick (.t 25) (.c (.bool true)) (.t 33), none⟩] (some [1, 2, 7, 8, 34])) (
.ite (.t 34) (
  .seq (.reg false [
    ⟨(some 6), none, .nilS 57 3, none⟩] (some [6])) (
  .ret)) (
  .skip))) (
.seq (.reg false [
  ⟨(some 9), none, .mv false (.c (.int .i64 3)), none⟩,
  ⟨(some 10), none, .mv false (.c (.int .i64 3)), none⟩,
  ⟨(some 11), none, .mv false (.c (.int .i64 4)), none⟩] (some [1, 2, 7, 8, 9, 10, 11])) (
.seq (.seq (.reg false [
  ⟨(some 35), none, .mv false (.t 8), none⟩,
  ⟨(some 36), none, .mv false (.t 1), none⟩,
  ⟨(some 37), none, .call false 26 [(.t 35), (.t 36)], none⟩] (some [2, 7, 8, 9, 10, 11, 37])) (
.ite (.t 37) (
  .reg false [
    ⟨(some 9), none, .mv false (.c (.int .i64 2)), none⟩,
    ⟨(some 10), none, .mv false (.c (.int .i64 0)), none⟩,
    ⟨(some 11), none, .mv false (.c (.int .i64 1)), none⟩] (some [2, 7, 8, 9, 10, 11])) (
  .skip))) (
.seq (.seq (.reg false [
  ⟨(some 38), none, .mv false (.t 7), none⟩,
  ⟨(some 39), none, .mv false (.t 2), none⟩,
  ⟨(some 40), none, .call false 26 [(.t 38), (.t 39)], none⟩] (some [7, 8, 9, 10, 11, 40])) (
.ite (.t 40) (
  .reg false [
    ⟨(some 9), none, .mv false (.c (.int .i64 0)), none⟩,
    ⟨(some 10), none, .mv false (.c (.int .i64 2)), none⟩,
    ⟨(some 11), none, .mv false (.c (.int .i64 1)), none⟩] (some [7, 8, 9, 10, 11])) (
  .skip))) (
.seq (.reg false [
  ⟨(some 12), none, .nilS 57 3, none⟩] (some [7, 8, 9, 10, 11, 12])) (
.seq (.seq (.reg false [
  ⟨(some 41), none, .mv false (.t 7), none⟩,
  ⟨(some 42), none, .len false (.t 41), none⟩,
  ⟨(some 43), none, .mv false (.c (.int .i64 0)), none⟩] (some [7, 8, 9, 10, 11, 12, 41, 42, 43])) (
.blk 0 (
  .loop (
    .seq (.reg false [
      ⟨(some 44), none, .bin .lss .i64 (.t 43) (.t 42), none⟩] (some [7, 8, 9, 10, 11, 12, 41, 42, 43, 44])) (
    .seq (.ite (.t 44) (
      .skip) (
      .exit 0)) (
    .seq (.blk 1 (
      .seq (.reg false [
        ⟨(some 45), none, .mv false (.t 43), none⟩,
        ⟨(some 46), none, .ixs 1 (.t 41) (.t 43), none⟩,
        ⟨(some 47), none, .ld none (.t 46), none⟩,
        ⟨(some 13), none, .mv false (.t 45), none⟩,
        ⟨(some 14), none, .mv false (.t 47), none⟩] (some [7, 8, 9, 10, 11, 12, 13, 14, 41, 42, 43])) (
      .seq (.reg false [
        ⟨(some 48), none, .mv false (.t 13), none⟩,
        ⟨(some 49), none, .bin .eql .i64 (.t 48) (.c (.int .i64 0)), none⟩] (some [7, 8, 9, 10, 11, 12, 14, 41, 42, 43, 49])) (
      .ite (.t 49) (
        .reg false [
          ⟨(some 50), none, .mv false (.t 12), none⟩,
          ⟨(some 51), none, .mv false (.t 14), none⟩,
          ⟨(some 52), none, .mv false (.t 9), none⟩,
          ⟨(some 53), none, .bld [(.int .u32 0), (.bool false), (.int .i64 0)] [(0, none, (.t 51)), (1, none, (.c (.bool false))), (2, none, (.t 52))], none⟩,
          ⟨(some 54), none, .bsl none 57 3 (some 3) [(.t 53)], none⟩,
          ⟨(some 55), none, .app 57 3 16 (.t 50) (.t 54), none⟩,
          ⟨(some 12), none, .mv false (.t 55), none⟩] (some [7, 8, 9, 10, 11, 12, 41, 42, 43])) (
        .seq (.reg false [
          ⟨(some 56), none, .mv false (.t 8), none⟩,
          ⟨(some 57), none, .mv false (.t 14), none⟩,
          ⟨(some 58), none, .call false 26 [(.t 56), (.t 57)], none⟩,
          ⟨(some 59), none, .not (.t 58), none⟩] (some [7, 8, 9, 10, 11, 12, 14, 41, 42, 43, 59])) (
        .ite (.t 59) (
          .reg false [
            ⟨(some 60), none, .mv false (.t 12), none⟩,
            ⟨(some 61), none, .mv false (.t 14), none⟩,
            ⟨(some 62), none, .mv false (.t 11), none⟩,
            ⟨(some 63), none, .bld [(.int .u32 0), (.bool false), (.int .i64 0)] [(0, none, (.t 61)), (1, none, (.c (.bool false))), (2, none, (.t 62))], none⟩,
            ⟨(some 64), none, .bsl none 57 3 (some 3) [(.t 63)], none⟩,
            ⟨(some 65), none, .app 57 3 16 (.t 60) (.t 64), none⟩,
            ⟨(some 12), none, .mv false (.t 65), none⟩] (some [7, 8, 9, 10, 11, 12, 41, 42, 43])) (
          .skip))))))) (
    .reg false [
      ⟨(some 66), none, .bin .add .i64 (.t 43) (.c (.int .i64 1)), none⟩,
      ⟨(some 43), none, .mv false (.t 66), none⟩] (some [7, 8, 9, 10, 11, 12, 41, 42, 43])))))))) (
.seq (.seq (.reg false [
  ⟨(some 67), none, .mv false (.t 8), none⟩,
  ⟨(some 68), none, .len false (.t 67), none⟩,
  ⟨(some 69), none, .bin .sub .i64 (.t 68) (.c (.int .i64 1)), none⟩,
  ⟨(some 15), none, .mv false (.t 69), none⟩] (some [7, 8, 10, 11, 12, 15])) (
.blk 2 (
  .loop (
    .seq (.seq (.reg false [
      ⟨(some 70), none, .mv false (.t 15), none⟩,
      ⟨(some 71), none, .bin .geq .i64 (.t 70) (.c (.int .i64 0)), none⟩] (some [7, 8, 10, 11, 12, 15, 71])) (
    .ite (.t 71) (
      .skip) (
      .exit 2))) (
    .seq (.blk 3 (
      .seq (.reg false [
        ⟨(some 74), none, .mv false (.t 15), none⟩,
        ⟨(some 75), none, .bin .eql .i64 (.t 74) (.c (.int .i64 0)), none⟩] (some [7, 8, 10, 11, 12, 15, 75])) (
      .ite (.t 75) (
        .reg false [
          ⟨(some 76), none, .mv false (.t 12), none⟩,
          ⟨(some 77), none, .mv false (.t 8), none⟩,
          ⟨(some 78), none, .mv false (.t 15), none⟩,
          ⟨(some 79), none, .ixs 1 (.t 77) (.t 78), none⟩,
          ⟨(some 80), none, .ld none (.t 79), none⟩,
          ⟨(some 81), none, .mv false (.t 10), none⟩,
          ⟨(some 82), none, .bld [(.int .u32 0), (.bool false), (.int .i64 0)] [(0, none, (.t 80)), (1, none, (.c (.bool true))), (2, none, (.t 81))], none⟩,
          ⟨(some 83), none, .bsl none 57 3 (some 3) [(.t 82)], none⟩,
          ⟨(some 84), none, .app 57 3 16 (.t 76) (.t 83), none⟩,
          ⟨(some 12), none, .mv false (.t 84), none⟩] (some [7, 8, 10, 11, 12, 15])) (
        .seq (.reg false [
          ⟨(some 85), none, .mv false (.t 7), none⟩,
          ⟨(some 86), none, .mv false (.t 8), none⟩,
          ⟨(some 87), none, .mv false (.t 15), none⟩,
          ⟨(some 88), none, .ixs 1 (.t 86) (.t 87), none⟩,
          ⟨(some 89), none, .ld none (.t 88), none⟩,
          ⟨(some 90), none, .call false 26 [(.t 85), (.t 89)], none⟩,
          ⟨(some 91), none, .not (.t 90), none⟩] (some [7, 8, 10, 11, 12, 15, 91])) (
        .ite (.t 91) (
          .reg false [
            ⟨(some 92), none, .mv false (.t 12), none⟩,
            ⟨(some 93), none, .mv false (.t 8), none⟩,
            ⟨(some 94), none, .mv false (.t 15), none⟩,
            ⟨(some 95), none, .ixs 1 (.t 93) (.t 94), none⟩,
            ⟨(some 96), none, .ld none (.t 95), none⟩,
            ⟨(some 97), none, .mv false (.t 11), none⟩,
            ⟨(some 98), none, .bld [(.int .u32 0), (.bool false), (.int .i64 0)] [(0, none, (.t 96)), (1, none, (.c (.bool true))), (2, none, (.t 97))], none⟩,
            ⟨(some 99), none, .bsl none 57 3 (some 3) [(.t 98)], none⟩,
            ⟨(some 100), none, .app 57 3 16 (.t 92) (.t 99), none⟩,
            ⟨(some 12), none, .mv false (.t 100), none⟩] (some [7, 8, 10, 11, 12, 15])) (
          .skip)))))) (
    .reg false [
      ⟨(some 72), none, .mv false (.t 15), none⟩,
      ⟨(some 73), none, .bin .sub .i64 (.t 72) (.c (.int .i64 1)), none⟩,
      ⟨(some 15), none, .mv false (.t 73), none⟩] (some [7, 8, 10, 11, 12, 15]))))))) (
.seq (.reg false [
  ⟨(some 101), none, .mv false (.t 12), none⟩,
  ⟨(some 6), none, .mv false (.t 101), none⟩] (some [6])) (
.ret))))))))))
set_option maxRecDepth 1000000 in
theorem comp_ref36_Path : (Try.f13.body.bind fun code => compC Try.prog Try.f13.ntmps code c_ref36_Path) = some c_ref36_Path.bare := by kernel_rfl
def r_ref36_Path : List R := [.t 6]
theorem spo_ref36_Path {ds : List D} {d : D} (hn : Nat.ble ds.length 102 = true) (h : run TSpC gtab 0 c_ref36_Path (retK r_ref36_Path (· = d)) ⟨env0 0 ds, []⟩) : TSp 13 ds d := Sp_of mixed c_ref36_Path r_ref36_Path (fn := Try.f13) (by kernel_rfl) (by kernel_rfl) comp_ref36_Path (by kernel_rfl) hn h
theorem spm_ref36_Path {ds : List D} {d : D} {bx bx' : List Ent} (hn : Nat.ble ds.length 102 = true) (h : run TSpC gtab (sizeE bx) c_ref36_Path (retG r_ref36_Path (fun d1 bx1 => Rt (sizeE bx) bx1 d1 d bx')) ⟨env0 0 ds, bx⟩) : TSpM 13 ds bx d bx' := SpM_of mixed c_ref36_Path r_ref36_Path (fn := Try.f13) (by kernel_rfl) (by kernel_rfl) comp_ref36_Path (by kernel_rfl) hn h
/-- glazier/glazierlaw36.ID -/
def c_law36_ID : C := .seq (.reg false [
  ⟨(some 2), none, .mv false (.c (.int .u32 0)), none⟩] (some [0])) (
.seq (.seq (.reg false [
  ⟨(some 3), none, .mv false (.t 0), none⟩,
  ⟨(some 4), none, .bin .eql .i64 (.t 3) (.c (.int .i64 0)), none⟩] (some [0, 4])) (
.ite (.t 4) (
  .seq (.reg false [
    ⟨(some 2), none, .mv false (.c (.int .u32 1)), none⟩] (some [2])) (
  .ret)) (
  .skip))) (
.seq (.reg false [
  ⟨(some 5), none, .mv false (.t 0), none⟩,
  ⟨(some 6), none, .bin .add .i64 (.c (.int .i64 1048576)) (.t 5), none⟩,
  ⟨(some 7), none, .conv .u32 (.t 6), none⟩,
  ⟨(some 2), none, .mv false (.t 7), none⟩] (some [2])) (
.ret)))
set_option maxRecDepth 1000000 in
theorem comp_law36_ID : (Try.f14.body.bind fun code => compC Try.prog Try.f14.ntmps code c_law36_ID) = some c_law36_ID.bare := by kernel_rfl
def r_law36_ID : List R := [.t 2]
theorem spo_law36_ID {ds : List D} {d : D} (hn : Nat.ble ds.length 8 = true) (h : run TSpC gtab 0 c_law36_ID (retK r_law36_ID (· = d)) ⟨env0 0 ds, []⟩) : TSp 14 ds d := Sp_of mixed c_law36_ID r_law36_ID (fn := Try.f14) (by kernel_rfl) (by kernel_rfl) comp_law36_ID (by kernel_rfl) hn h
theorem spm_law36_ID {ds : List D} {d : D} {bx bx' : List Ent} (hn : Nat.ble ds.length 8 = true) (h : run TSpC gtab (sizeE bx) c_law36_ID (retG r_law36_ID (fun d1 bx1 => Rt (sizeE bx) bx1 d1 d bx')) ⟨env0 0 ds, bx⟩) : TSpM 14 ds bx d bx' := SpM_of mixed c_law36_ID r_law36_ID (fn := Try.f14) (by kernel_rfl) (by kernel_rfl) comp_law36_ID (by kernel_rfl) hn h
/-- glazier/glazierref36.Up -/
def c_ref36_Up : C := .seq (.reg false [
  ⟨(some 4), none, .nilS 24 1, none⟩] (some [0, 1])) (
.seq (.seq (.reg false [
  ⟨(some 6), none, .mv false (.t 0), none⟩,
  ⟨(some 7), none, .mv false (.t 1), none⟩,
  ⟨(some 8), none, .call false 27 [(.t 6), (.t 7)], none⟩,
  ⟨(some 9), none, .not (.t 8), none⟩] (some [0, 1, 9])) (
.ite (.t 9) (
  .seq (.reg false [
    ⟨(some 4), none, .nilS 24 1, none⟩] (some [4])) (
  .ret)) (
  .skip))) (
.seq (.reg false [
  ⟨(some 5), none, .nilS 24 1, none⟩] (some [0, 1, 5])) (
.seq (.blk 0 (
  .loop (
    .seq (.seq (.reg false [
      ⟨(some 10), none, .mv false (.t 1), none⟩,
      ⟨(some 11), none, .bin .neq .u32 (.t 10) (.c (.int .u32 0)), none⟩] (some [0, 1, 5, 11])) (
    .ite (.t 11) (
      .skip) (
      .exit 0))) (
    .blk 1 (
      .seq (.reg false [
        ⟨(some 12), none, .mv false (.t 5), none⟩,
        ⟨(some 13), none, .mv false (.t 1), none⟩,
        ⟨(some 14), none, .bsl none 24 1 none [(.t 13)], none⟩,
        ⟨(some 15), none, .app 24 1 4 (.t 12) (.t 14), none⟩,
        ⟨(some 5), none, .mv false (.t 15), none⟩] (some [0, 1, 5])) (
      .reg false [
        ⟨(some 16), none, .mv false (.t 0), none⟩,
        ⟨(some 17), none, .mv false (.t 1), none⟩,
        ⟨(some 18), none, .call false 28 [(.t 16), (.t 17)], none⟩,
        ⟨(some 1), none, .mv false (.t 18), none⟩] (some [0, 1, 5]))))))) (
.seq (.reg false [
  ⟨(some 19), none, .mv false (.t 5), none⟩,
  ⟨(some 4), none, .mv false (.t 19), none⟩] (some [4])) (
.ret)))))
set_option maxRecDepth 1000000 in
theorem comp_ref36_Up : (Try.f15.body.bind fun code => compC Try.prog Try.f15.ntmps code c_ref36_Up) = some c_ref36_Up.bare := by kernel_rfl
def r_ref36_Up : List R := [.t 4]
theorem spo_ref36_Up {ds : List D} {d : D} (hn : Nat.ble ds.length 20 = true) (h : run TSpC gtab 0 c_ref36_Up (retK r_ref36_Up (· = d)) ⟨env0 0 ds, []⟩) : TSp 15 ds d := Sp_of mixed c_ref36_Up r_ref36_Up (fn := Try.f15) (by kernel_rfl) (by kernel_rfl) comp_ref36_Up (by kernel_rfl) hn h
theorem spm_ref36_Up {ds : List D} {d : D} {bx bx' : List Ent} (hn : Nat.ble ds.length 20 = true) (h : run TSpC gtab (sizeE bx) c_ref36_Up (retG r_ref36_Up (fun d1 bx1 => Rt (sizeE bx) bx1 d1 d bx')) ⟨env0 0 ds, bx⟩) : TSpM 15 ds bx d bx' := SpM_of mixed c_ref36_Up r_ref36_Up (fn := Try.f15) (by kernel_rfl) (by kernel_rfl) comp_ref36_Up (by kernel_rfl) hn h
/-- glazier/cross.Back -/
def c_cross_Back : C := .seq (.reg false [
  ⟨(some 2), none, .nilS 42 3, none⟩] (some [0])) (
.seq (.reg false [
  ⟨(some 6), none, .mv false (.t 0), none⟩,
  ⟨(some 7), none, .len false (.t 6), none⟩,
  ⟨(some 8), none, .mks 42 3 (some 3) [(.int .u32 0), (.bool false), (.int .i64 0)] (.c (.int .i64 0)) (.t 7), none⟩,
  ⟨(some 3), none, .mv false (.t 8), none⟩] (some [0, 3])) (
.seq (.seq (.reg false [
  ⟨(some 9), none, .mv false (.t 0), none⟩,
  ⟨(some 10), none, .len false (.t 9), none⟩,
  ⟨(some 11), none, .bin .sub .i64 (.t 10) (.c (.int .i64 1)), none⟩,
  ⟨(some 4), none, .mv false (.t 11), none⟩] (some [0, 3, 4])) (
.blk 0 (
  .loop (
    .seq (.seq (.reg false [
      ⟨(some 12), none, .mv false (.t 4), none⟩,
      ⟨(some 13), none, .bin .geq .i64 (.t 12) (.c (.int .i64 0)), none⟩] (some [0, 3, 4, 13])) (
    .ite (.t 13) (
      .skip) (
      .exit 0))) (
    .seq (.blk 1 (
      .seq (.reg false [
        ⟨(some 16), none, .mv false (.t 0), none⟩,
        ⟨(some 17), none, .mv false (.t 4), none⟩,
        ⟨(some 18), none, .ixs 3 (.t 16) (.t 17), none⟩,
        ⟨(some 19), none, .ld (some 3) (.t 18), none⟩,
        ⟨(some 5), none, .alloc [(.int .u32 0), (.bool false), (.int .i64 0)], none⟩,
        ⟨none, none, .st (some 3) (.t 5) (.t 19), none⟩] (some [0, 3, 4, 5])) (
      .seq (.reg false [
        ⟨(some 20), none, .fld 1 (.t 5), none⟩,
        ⟨(some 21), none, .ld none (.t 20), none⟩,
        ⟨(some 22), none, .not (.t 21), none⟩,
        ⟨(some 23), none, .fld 1 (.t 5), none⟩,
        ⟨none, none, .st none (.t 23) (.t 22), none⟩] (some [0, 3, 4, 5])) (
      .reg false [
        ⟨(some 24), none, .mv false (.t 3), none⟩,
        ⟨(some 25), none, .ld (some 3) (.t 5), none⟩,
        ⟨(some 26), none, .bsl none 42 3 (some 3) [(.t 25)], none⟩,
        ⟨(some 27), none, .app 42 3 16 (.t 24) (.t 26), none⟩,
        ⟨(some 3), none, .mv false (.t 27), none⟩] (some [0, 3, 4]))))) (
    .reg false [
      ⟨(some 14), none, .mv false (.t 4), none⟩,
      ⟨(some 15), none, .bin .sub .i64 (.t 14) (.c (.int .i64 1)), none⟩,
      ⟨(some 4), none, .mv false (.t 15), none⟩] (some [0, 3, 4]))))))) (
.seq (.reg false [
  ⟨(some 28), none, .mv false (.t 3), none⟩,
  ⟨(some 2), none, .mv false (.t 28), none⟩] (some [2])) (
.ret))))
set_option maxRecDepth 1000000 in
theorem comp_cross_Back : (Try.f16.body.bind fun code => compC Try.prog Try.f16.ntmps code c_cross_Back) = some c_cross_Back.bare := by kernel_rfl
def r_cross_Back : List R := [.t 2]
theorem spo_cross_Back {ds : List D} {d : D} (hn : Nat.ble ds.length 29 = true) (h : run TSpC gtab 0 c_cross_Back (retK r_cross_Back (· = d)) ⟨env0 0 ds, []⟩) : TSp 16 ds d := Sp_of mixed c_cross_Back r_cross_Back (fn := Try.f16) (by kernel_rfl) (by kernel_rfl) comp_cross_Back (by kernel_rfl) hn h
theorem spm_cross_Back {ds : List D} {d : D} {bx bx' : List Ent} (hn : Nat.ble ds.length 29 = true) (h : run TSpC gtab (sizeE bx) c_cross_Back (retG r_cross_Back (fun d1 bx1 => Rt (sizeE bx) bx1 d1 d bx')) ⟨env0 0 ds, bx⟩) : TSpM 16 ds bx d bx' := SpM_of mixed c_cross_Back r_cross_Back (fn := Try.f16) (by kernel_rfl) (by kernel_rfl) comp_cross_Back (by kernel_rfl) hn h
/-- glazier/cross.Name -/
def c_cross_Name : C := .seq (.reg false [
  ⟨(some 2), none, .mv false (.c (.str [])), none⟩] (some [0])) (
.seq (.seq (.reg false [
  ⟨(some 3), none, .mv false (.t 0), none⟩] (some [3])) (
.blk 0 (
  .seq (.reg false [
    ⟨(some 5), none, .bin .eql .i64 (.t 3) (.c (.int .i64 0)), none⟩,
    ⟨(some 4), none, .mv false (.t 5), none⟩] (some [3, 4])) (
  .ite (.t 4) (
    .seq (.reg false [
      ⟨(some 2), none, .mv false (.c (.str [97, 110, 99, 101, 115, 116, 111, 114])), none⟩] (some [2])) (
    .ret)) (
    .seq (.reg false [
      ⟨(some 7), none, .bin .eql .i64 (.t 3) (.c (.int .i64 1)), none⟩,
      ⟨(some 6), none, .mv false (.t 7), none⟩] (some [3, 6])) (
    .ite (.t 6) (
      .seq (.reg false [
        ⟨(some 2), none, .mv false (.c (.str [118, 105, 114, 116, 117, 97, 108])), none⟩] (some [2])) (
      .ret)) (
      .seq (.reg false [
        ⟨(some 9), none, .bin .eql .i64 (.t 3) (.c (.int .i64 2)), none⟩,
        ⟨(some 8), none, .mv false (.t 9), none⟩] (some [3, 8])) (
      .ite (.t 8) (
        .seq (.reg false [
          ⟨(some 2), none, .mv false (.c (.str [105, 110, 102, 101, 114, 105, 111, 114])), none⟩] (some [2])) (
        .ret)) (
        .seq (.reg false [
          ⟨(some 11), none, .bin .eql .i64 (.t 3) (.c (.int .i64 3)), none⟩,
          ⟨(some 10), none, .mv false (.t 11), none⟩] (some [3, 10])) (
        .ite (.t 10) (
          .seq (.reg false [
            ⟨(some 2), none, .mv false (.c (.str [110, 111, 110, 108, 105, 110, 101, 97, 114])), none⟩] (some [2])) (
          .ret)) (
          .seq (.reg false [
            ⟨(some 13), none, .bin .eql .i64 (.t 3) (.c (.int .i64 4)), none⟩,
            ⟨(some 12), none, .mv false (.t 13), none⟩] (some [12])) (
          .ite (.t 12) (
            .seq (.reg false [
              ⟨(some 2), none, .mv false (.c (.str [110, 111, 110, 108, 105, 110, 101, 97, 114, 45, 118, 105, 114, 116, 117, 97, 108])), none⟩] (some [2])) (
            .ret)) (
            .skip))))))))))))) (
.seq (.reg false [
  ⟨(some 2), none, .mv false (.c (.str [])), none⟩] (some [2])) (
.ret)))
set_option maxRecDepth 1000000 in
theorem comp_cross_Name : (Try.f17.body.bind fun code => compC Try.prog Try.f17.ntmps code c_cross_Name) = some c_cross_Name.bare := by kernel_rfl
def r_cross_Name : List R := [.t 2]
theorem spo_cross_Name {ds : List D} {d : D} (hn : Nat.ble ds.length 14 = true) (h : run TSpC gtab 0 c_cross_Name (retK r_cross_Name (· = d)) ⟨env0 0 ds, []⟩) : TSp 17 ds d := Sp_of mixed c_cross_Name r_cross_Name (fn := Try.f17) (by kernel_rfl) (by kernel_rfl) comp_cross_Name (by kernel_rfl) hn h
theorem spm_cross_Name {ds : List D} {d : D} {bx bx' : List Ent} (hn : Nat.ble ds.length 14 = true) (h : run TSpC gtab (sizeE bx) c_cross_Name (retG r_cross_Name (fun d1 bx1 => Rt (sizeE bx) bx1 d1 d bx')) ⟨env0 0 ds, bx⟩) : TSpM 17 ds bx d bx' := SpM_of mixed c_cross_Name r_cross_Name (fn := Try.f17) (by kernel_rfl) (by kernel_rfl) comp_cross_Name (by kernel_rfl) hn h
/-- glazier/tree.New -/
def c_tree_New : C := .seq (.reg false [
  ⟨(some 0), none, .alloc [(.mp [] []), (.mp [] [])], none⟩] (some [0])) (
.seq (.reg false [
  ⟨(some 1), none, .bld [(.mp [] []), (.mp [] [])] [], none⟩,
  ⟨none, none, .st (some 2) (.t 0) (.t 1), none⟩] (some [0])) (
.ret))
set_option maxRecDepth 1000000 in
theorem comp_tree_New : (Try.f18.body.bind fun code => compC Try.prog Try.f18.ntmps code c_tree_New) = some c_tree_New.bare := by kernel_rfl
def r_tree_New : List R := [.cell 0 (some 2)]
theorem spo_tree_New {ds : List D} {d : D} (hn : Nat.ble ds.length 2 = true) (h : run TSpC gtab 0 c_tree_New (retK r_tree_New (· = d)) ⟨env0 0 ds, []⟩) : TSp 18 ds d := Sp_of mixed c_tree_New r_tree_New (fn := Try.f18) (by kernel_rfl) (by kernel_rfl) comp_tree_New (by kernel_rfl) hn h
theorem spm_tree_New {ds : List D} {d : D} {bx bx' : List Ent} (hn : Nat.ble ds.length 2 = true) (h : run TSpC gtab (sizeE bx) c_tree_New (retG r_tree_New (fun d1 bx1 => Rt (sizeE bx) bx1 d1 d bx')) ⟨env0 0 ds, bx⟩) : TSpM 18 ds bx d bx' := SpM_of mixed c_tree_New r_tree_New (fn := Try.f18) (by kernel_rfl) (by kernel_rfl) comp_tree_New (by kernel_rfl) hn h
/-- (glazier/tree.Tree).Add -/
def c_tree_Tree_Add : C := .seq (.reg false [
  ⟨(some 3), none, .box true (.t 0), none⟩,
  ⟨(some 6), none, .alloc [(.mp [] []), (.mp [] [])], none⟩,
  ⟨(some 7), none, .mv false (.c (.int .i64 0)), none⟩] (some [1, 2, 3, 6])) (
.seq (.seq (.reg false [
  ⟨(some 10), none, .mv false (.t 1), none⟩,
  ⟨(some 11), none, .call false 29 [(.t 10)], none⟩,
  ⟨(some 8), none, .mv false (.t 11), none⟩] (some [1, 2, 3, 6, 8])) (
.seq (.reg false [
  ⟨(some 12), none, .mv false (.t 8), none⟩,
  ⟨(some 13), none, .bin .neq .i64 (.t 12) (.c (.int .i64 0)), none⟩] (some [1, 2, 3, 6, 8, 13])) (
.ite (.t 13) (
  .seq (.reg false [
    ⟨(some 14), none, .ld (some 2) (.t 3), none⟩,
    ⟨(some 15), none, .mv false (.t 8), none⟩,
    ⟨none, none, .st (some 2) (.t 6) (.t 14), none⟩,
    ⟨(some 7), none, .mv false (.t 15), none⟩] (some [6, 7])) (
  .ret)) (
  .skip)))) (
.seq (.blk 0 (
  .seq (.reg false [
    ⟨(some 17), none, .ld (some 2) (.t 3), none⟩,
    ⟨(some 18), none, .mv false (.t 1), none⟩,
    ⟨(some 19), none, .call false 30 [(.t 17), (.t 18)], none⟩,
    ⟨(some 16), none, .mv false (.t 19), none⟩] (some [1, 2, 3, 6, 16])) (
  .ite (.t 16) (
    .seq (.reg false [
      ⟨(some 20), none, .ld (some 2) (.t 3), none⟩,
      ⟨none, none, .st (some 2) (.t 6) (.t 20), none⟩,
      ⟨(some 7), none, .mv false (.c (.int .i64 7)), none⟩] (some [6, 7])) (
    .ret)) (
    .seq (.reg false [
      ⟨(some 22), none, .ld (some 2) (.t 3), none⟩,
      ⟨(some 23), none, .mv false (.t 2), none⟩,
      ⟨(some 24), none, .call false 30 [(.t 22), (.t 23)], none⟩,
      ⟨(some 25), none, .not (.t 24), none⟩,
      ⟨(some 21), none, .mv false (.t 25), none⟩] (some [1, 2, 3, 6, 21])) (
    .ite (.t 21) (
      .seq (.reg false [
        ⟨(some 26), none, .ld (some 2) (.t 3), none⟩,
        ⟨none, none, .st (some 2) (.t 6) (.t 26), none⟩,
        ⟨(some 7), none, .mv false (.c (.int .i64 6)), none⟩] (some [6, 7])) (
      .ret)) (
      .seq (.reg false [
        ⟨(some 28), none, .fld 1 (.t 3), none⟩,
        ⟨(some 29), none, .ld none (.t 28), none⟩,
        ⟨(some 30), none, .prm false false (.lenm 27) [(.t 29)], none⟩,
        ⟨(some 31), none, .bin .add .i64 (.t 30) (.c (.int .i64 1)), none⟩,
        ⟨(some 32), none, .bin .geq .i64 (.t 31) (.c (.int .i64 64)), none⟩,
        ⟨(some 27), none, .mv false (.t 32), none⟩] (some [1, 2, 3, 6, 27])) (
      .ite (.t 27) (
        .seq (.reg false [
          ⟨(some 33), none, .ld (some 2) (.t 3), none⟩,
          ⟨none, none, .st (some 2) (.t 6) (.t 33), none⟩,
          ⟨(some 7), none, .mv false (.c (.int .i64 5)), none⟩] (some [6, 7])) (
        .ret)) (
        .skip)))))))) (
.seq (.reg false [
  ⟨(some 34), none, .ld (some 2) (.t 3), none⟩,
  ⟨(some 35), none, .call true 31 [(.t 34)], none⟩,
  ⟨(some 9), none, .alloc [(.mp [] []), (.mp [] [])], none⟩,
  ⟨none, none, .st (some 2) (.t 9) (.t 35), none⟩] (some [1, 2, 6, 9])) (
.seq (.reg false [
  ⟨(some 36), none, .ld (some 2) (.t 9), none⟩,
  ⟨(some 37), none, .mv false (.t 1), none⟩,
  ⟨(some 38), none, .mv false (.t 2), none⟩,
  ⟨(some 39), none, .call true 32 [(.t 36), (.t 37), (.t 38)], none⟩] (some [6, 9])) (
.seq (.reg false [
  ⟨(some 40), none, .ld (some 2) (.t 9), none⟩,
  ⟨none, none, .st (some 2) (.t 6) (.t 40), none⟩,
  ⟨(some 7), none, .mv false (.c (.int .i64 0)), none⟩] (some [6, 7])) (
.ret))))))
set_option maxRecDepth 1000000 in
theorem comp_tree_Tree_Add : (Try.f19.body.bind fun code => compC Try.prog Try.f19.ntmps code c_tree_Tree_Add) = some c_tree_Tree_Add.bare := by kernel_rfl
def r_tree_Tree_Add : List R := [.cell 6 (some 2), .t 7]
theorem spo_tree_Tree_Add {ds : List D} {d : D} (hn : Nat.ble ds.length 41 = true) (h : run TSpC gtab 0 c_tree_Tree_Add (retK r_tree_Tree_Add (· = d)) ⟨env0 0 ds, []⟩) : TSp 19 ds d := Sp_of mixed c_tree_Tree_Add r_tree_Tree_Add (fn := Try.f19) (by kernel_rfl) (by kernel_rfl) comp_tree_Tree_Add (by kernel_rfl) hn h
theorem spm_tree_Tree_Add {ds : List D} {d : D} {bx bx' : List Ent} (hn : Nat.ble ds.length 41 = true) (h : run TSpC gtab (sizeE bx) c_tree_Tree_Add (retG r_tree_Tree_Add (fun d1 bx1 => Rt (sizeE bx) bx1 d1 d bx')) ⟨env0 0 ds, bx⟩) : TSpM 19 ds bx d bx' := SpM_of mixed c_tree_Tree_Add r_tree_Tree_Add (fn := Try.f19) (by kernel_rfl) (by kernel_rfl) comp_tree_Tree_Add (by kernel_rfl) hn h
/-- glazier/cross.Path$1 -/
def c_cross_Path_1 : C := .seq (.reg false [
  ⟨(some 2), none, .box true (.t 0), none⟩] (some [1, 2])) (
.seq (.reg false [
  ⟨(some 3), none, .ld (some 3) (.t 2), none⟩,
  ⟨(some 4), none, .bld [(.int .u32 0), (.bool false), (.int .i64 0)] [], none⟩,
  ⟨(some 5), none, .eqS true [.i .u32, .b, .i .i64] (.t 3) (.t 4), none⟩] (some [1, 2, 5])) (
.ite (.t 5) (
  .reg false [
    ⟨(some 6), none, .ld none (.t 1), none⟩,
    ⟨(some 7), none, .ld (some 3) (.t 2), none⟩,
    ⟨(some 8), none, .bsl none 42 3 (some 3) [(.t 7)], none⟩,
    ⟨(some 9), none, .app 42 3 16 (.t 6) (.t 8), none⟩,
    ⟨none, none, .st none (.t 1) (.t 9), none⟩] (some [])) (
  .skip)))
set_option maxRecDepth 1000000 in
theorem comp_cross_Path_1 : (Try.f20.body.bind fun code => compC Try.prog Try.f20.ntmps code c_cross_Path_1) = some c_cross_Path_1.bare := by kernel_rfl
def r_cross_Path_1 : List R := []
theorem spo_cross_Path_1 {ds : List D} {d : D} (hn : Nat.ble ds.length 10 = true) (h : run TSpC gtab 0 c_cross_Path_1 (retK r_cross_Path_1 (· = d)) ⟨env0 0 ds, []⟩) : TSp 20 ds d := Sp_of mixed c_cross_Path_1 r_cross_Path_1 (fn := Try.f20) (by kernel_rfl) (by kernel_rfl) comp_cross_Path_1 (by kernel_rfl) hn h
theorem spm_cross_Path_1 {ds : List D} {d : D} {bx bx' : List Ent} (hn : Nat.ble ds.length 10 = true) (h : run TSpC gtab (sizeE bx) c_cross_Path_1 (retG r_cross_Path_1 (fun d1 bx1 => Rt (sizeE bx) bx1 d1 d bx')) ⟨env0 0 ds, bx⟩) : TSpM 20 ds bx d bx' := SpM_of mixed c_cross_Path_1 r_cross_Path_1 (fn := Try.f20) (by kernel_rfl) (by kernel_rfl) comp_cross_Path_1 (by kernel_rfl) hn h
/-- (glazier/tree.Tree).Path -/
def c_tree_Tree_Path : C := .seq (.reg false [
  ⟨(some 2), none, .box true (.t 0), none⟩,
  ⟨(some 4), none, .nilS 24 1, none⟩] (some [1, 2])) (
.seq (.seq (.reg false [
  ⟨(some 6), none, .ld (some 2) (.t 2), none⟩,
  ⟨(some 7), none, .mv false (.t 1), none⟩,
  ⟨(some 8), none, .call false 30 [(.t 6), (.t 7)], none⟩,
  ⟨(some 9), none, .not (.t 8), none⟩] (some [1, 2, 9])) (
.ite (.t 9) (
  .seq (.reg false [
    ⟨(some 4), none, .nilS 24 1, none⟩] (some [4])) (
  .ret)) (
  .skip))) (
.seq (.reg false [
  ⟨(some 10), none, .mv false (.t 1), none⟩,
  ⟨(some 11), none, .bsl (some false) 24 1 none [(.t 10)], none⟩,
  ⟨(some 5), none, .mv false (.t 11), none⟩] (some [1, 2, 5])) (
.seq (.blk 0 (
  .loop (
    .seq (.seq (.reg false [
      ⟨(some 12), none, .mv false (.t 1), none⟩,
      ⟨(some 13), none, .bin .neq .u32 (.t 12) (.c (.int .u32 1)), none⟩] (some [1, 2, 5, 13])) (
    .ite (.t 13) (
      .skip) (
      .exit 0))) (
    .blk 1 (
      .seq (.reg false [
        ⟨(some 14), none, .fld 1 (.t 2), none⟩,
        ⟨(some 15), none, .ld none (.t 14), none⟩,
        ⟨(some 16), none, .mv false (.t 1), none⟩,
        ⟨(some 17), none, .prm false false (.lkp 27 false) [(.t 15), (.t 16)], none⟩,
        ⟨(some 1), none, .mv false (.t 17), none⟩] (some [1, 2, 5])) (
      .reg false [
        ⟨(some 18), none, .mv false (.t 5), none⟩,
        ⟨(some 19), none, .mv false (.t 1), none⟩,
        ⟨(some 20), none, .bsl none 24 1 none [(.t 19)], none⟩,
        ⟨(some 21), none, .app 24 1 4 (.t 18) (.t 20), none⟩,
        ⟨(some 5), none, .mv false (.t 21), none⟩] (some [1, 2, 5]))))))) (
.seq (.reg false [
  ⟨(some 22), none, .mv false (.t 5), none⟩,
  ⟨(some 4), none, .mv false (.t 22), none⟩] (some [4])) (
.ret)))))
set_option maxRecDepth 1000000 in
theorem comp_tree_Tree_Path : (Try.f21.body.bind fun code => compC Try.prog Try.f21.ntmps code c_tree_Tree_Path) = some c_tree_Tree_Path.bare := by kernel_rfl
def r_tree_Tree_Path : List R := [.t 4]
theorem spo_tree_Tree_Path {ds : List D} {d : D} (hn : Nat.ble ds.length 23 = true) (h : run TSpC gtab 0 c_tree_Tree_Path (retK r_tree_Tree_Path (· = d)) ⟨env0 0 ds, []⟩) : TSp 21 ds d := Sp_of mixed c_tree_Tree_Path r_tree_Tree_Path (fn := Try.f21) (by kernel_rfl) (by kernel_rfl) comp_tree_Tree_Path (by kernel_rfl) hn h
theorem spm_tree_Tree_Path {ds : List D} {d : D} {bx bx' : List Ent} (hn : Nat.ble ds.length 23 = true) (h : run TSpC gtab (sizeE bx) c_tree_Tree_Path (retG r_tree_Tree_Path (fun d1 bx1 => Rt (sizeE bx) bx1 d1 d bx')) ⟨env0 0 ds, bx⟩) : TSpM 21 ds bx d bx' := SpM_of mixed c_tree_Tree_Path r_tree_Tree_Path (fn := Try.f21) (by kernel_rfl) (by kernel_rfl) comp_tree_Tree_Path (by kernel_rfl) hn h
/-- (glazier/tree.Tree).Meet -/
def c_tree_Tree_Meet : C := .seq (.reg false [
  ⟨(some 3), none, .box true (.t 0), none⟩,
  ⟨(some 6), none, .mv false (.c (.int .u32 0)), none⟩,
  ⟨(some 7), none, .mv false (.c (.bool false)), none⟩] (some [1, 2, 3])) (
.seq (.reg false [
  ⟨(some 11), none, .ld (some 2) (.t 3), none⟩,
  ⟨(some 12), none, .mv false (.t 2), none⟩,
  ⟨(some 13), none, .call false 21 [(.t 11), (.t 12)], none⟩,
  ⟨(some 8), none, .mv false (.t 13), none⟩] (some [1, 3, 8])) (
.seq (.seq (.reg false [
  ⟨(some 14), none, .ld (some 2) (.t 3), none⟩,
  ⟨(some 15), none, .mv false (.t 1), none⟩,
  ⟨(some 16), none, .call false 21 [(.t 14), (.t 15)], none⟩,
  ⟨(some 17), none, .len false (.t 16), none⟩,
  ⟨(some 18), none, .mv false (.c (.int .i64 0)), none⟩] (some [8, 16, 17, 18])) (
.blk 0 (
  .loop (
    .seq (.reg false [
      ⟨(some 19), none, .bin .lss .i64 (.t 18) (.t 17), none⟩] (some [8, 16, 17, 18, 19])) (
    .seq (.ite (.t 19) (
      .skip) (
      .exit 0)) (
    .seq (.blk 1 (
      .seq (.reg false [
        ⟨(some 20), none, .ixs 1 (.t 16) (.t 18), none⟩,
        ⟨(some 21), none, .ld none (.t 20), none⟩,
        ⟨(some 10), none, .mv false (.t 21), none⟩] (some [8, 10, 16, 17, 18])) (
      .seq (.reg false [
        ⟨(some 22), none, .mv false (.t 8), none⟩,
        ⟨(some 23), none, .mv false (.t 10), none⟩,
        ⟨(some 24), none, .call false 33 [(.t 22), (.t 23)], none⟩] (some [8, 10, 16, 17, 18, 24])) (
      .ite (.t 24) (
        .seq (.reg false [
          ⟨(some 25), none, .mv false (.t 10), none⟩,
          ⟨(some 6), none, .mv false (.t 25), none⟩,
          ⟨(some 7), none, .mv false (.c (.bool true)), none⟩] (some [6, 7])) (
        .ret)) (
        .skip))))) (
    .reg false [
      ⟨(some 26), none, .bin .add .i64 (.t 18) (.c (.int .i64 1)), none⟩,
      ⟨(some 18), none, .mv false (.t 26), none⟩] (some [8, 16, 17, 18])))))))) (
.seq (.reg false [
  ⟨(some 6), none, .mv false (.c (.int .u32 0)), none⟩,
  ⟨(some 7), none, .mv false (.c (.bool false)), none⟩] (some [6, 7])) (
.ret))))
set_option maxRecDepth 1000000 in
theorem comp_tree_Tree_Meet : (Try.f22.body.bind fun code => compC Try.prog Try.f22.ntmps code c_tree_Tree_Meet) = some c_tree_Tree_Meet.bare := by kernel_rfl
def r_tree_Tree_Meet : List R := [.t 6, .t 7]
theorem spo_tree_Tree_Meet {ds : List D} {d : D} (hn : Nat.ble ds.length 27 = true) (h : run TSpC gtab 0 c_tree_Tree_Meet (retK r_tree_Tree_Meet (· = d)) ⟨env0 0 ds, []⟩) : TSp 22 ds d := Sp_of mixed c_tree_Tree_Meet r_tree_Tree_Meet (fn := Try.f22) (by kernel_rfl) (by kernel_rfl) comp_tree_Tree_Meet (by kernel_rfl) hn h
theorem spm_tree_Tree_Meet {ds : List D} {d : D} {bx bx' : List Ent} (hn : Nat.ble ds.length 27 = true) (h : run TSpC gtab (sizeE bx) c_tree_Tree_Meet (retG r_tree_Tree_Meet (fun d1 bx1 => Rt (sizeE bx) bx1 d1 d bx')) ⟨env0 0 ds, bx⟩) : TSpM 22 ds bx d bx' := SpM_of mixed c_tree_Tree_Meet r_tree_Tree_Meet (fn := Try.f22) (by kernel_rfl) (by kernel_rfl) comp_tree_Tree_Meet (by kernel_rfl) hn h
/-- glazier/cross.up -/
def c_cross_up : C := .seq (.reg false [
  ⟨(some 10), none, .mv false (.t 0), none⟩,
  ⟨(some 11), none, .len false (.t 10), none⟩,
  ⟨(some 12), none, .mv false (.c (.int .i64 0)), none⟩] (some [1, 2, 3, 10, 11, 12])) (
.blk 0 (
  .loop (
    .seq (.reg false [
      ⟨(some 13), none, .bin .lss .i64 (.t 12) (.t 11), none⟩] (some [1, 2, 3, 10, 11, 12, 13])) (
    .seq (.ite (.t 13) (
      .skip) (
      .exit 0)) (
    .seq (.blk 1 (
      .seq (.reg false [
        ⟨(some 14), none, .ixs 1 (.t 10) (.t 12), none⟩,
        ⟨(some 15), none, .ld none (.t 14), none⟩,
        ⟨(some 9), none, .mv false (.t 15), none⟩] (some [1, 2, 3, 9, 10, 11, 12])) (
      .reg false [
        ⟨(some 16), none, .mv false (.t 3), none⟩,
        ⟨(some 17), none, .mv false (.t 9), none⟩,
        ⟨(some 18), none, .mv false (.t 1), none⟩,
        ⟨(some 19), none, .mv false (.t 2), none⟩,
        ⟨(some 20), none, .bld [(.int .u32 0), (.bool false), (.int .i64 0)] [(0, none, (.t 17)), (1, none, (.t 18)), (2, none, (.t 19))], none⟩,
        ⟨(some 21), none, .callv true (.t 16) [(.t 20)], none⟩] (some [1, 2, 3, 10, 11, 12])))) (
    .reg false [
      ⟨(some 22), none, .bin .add .i64 (.t 12) (.c (.int .i64 1)), none⟩,
      ⟨(some 12), none, .mv false (.t 22), none⟩] (some [1, 2, 3, 10, 11, 12])))))))
set_option maxRecDepth 1000000 in
theorem comp_cross_up : (Try.f23.body.bind fun code => compC Try.prog Try.f23.ntmps code c_cross_up) = some c_cross_up.bare := by kernel_rfl
def r_cross_up : List R := []
theorem spo_cross_up {ds : List D} {d : D} (hn : Nat.ble ds.length 23 = true) (h : run TSpC gtab 0 c_cross_up (retK r_cross_up (· = d)) ⟨env0 0 ds, []⟩) : TSp 23 ds d := Sp_of mixed c_cross_up r_cross_up (fn := Try.f23) (by kernel_rfl) (by kernel_rfl) comp_cross_up (by kernel_rfl) hn h
theorem spm_cross_up {ds : List D} {d : D} {bx bx' : List Ent} (hn : Nat.ble ds.length 23 = true) (h : run TSpC gtab (sizeE bx) c_cross_up (retG r_cross_up (fun d1 bx1 => Rt (sizeE bx) bx1 d1 d bx')) ⟨env0 0 ds, bx⟩) : TSpM 23 ds bx d bx' := SpM_of mixed c_cross_up r_cross_up (fn := Try.f23) (by kernel_rfl) (by kernel_rfl) comp_cross_up (by kernel_rfl) hn h
/-- glazier/cross.above -/
def c_cross_above : C := .seq (.reg false [
  ⟨(some 4), none, .nilS 24 1, none⟩] (some [0, 1])) (
.seq (.seq (.reg false [
  ⟨(some 6), none, .mv false (.t 0), none⟩,
  ⟨(some 7), none, .len false (.t 6), none⟩,
  ⟨(some 8), none, .bin .eql .i64 (.t 7) (.c (.int .i64 0)), none⟩] (some [0, 1, 8])) (
.ite (.t 8) (
  .seq (.reg false [
    ⟨(some 4), none, .nilS 24 1, none⟩] (some [4])) (
  .ret)) (
  .skip))) (
.seq (.reg false [
  ⟨(some 9), none, .mv false (.t 0), none⟩,
  ⟨(some 10), none, .sls false 1 (.t 9) (some (.c (.int .i64 1))) none, none⟩,
  ⟨(some 0), none, .mv false (.t 10), none⟩] (some [0, 1])) (
.seq (.seq (.reg false [
  ⟨(some 11), none, .mv false (.t 0), none⟩,
  ⟨(some 12), none, .mv false (.t 1), none⟩,
  ⟨(some 13), none, .call false 34 [(.t 11), (.t 12)], none⟩,
  ⟨(some 5), none, .mv false (.t 13), none⟩] (some [0, 5])) (
.seq (.reg false [
  ⟨(some 14), none, .mv false (.t 5), none⟩,
  ⟨(some 15), none, .bin .geq .i64 (.t 14) (.c (.int .i64 0)), none⟩] (some [0, 5, 15])) (
.ite (.t 15) (
  .reg false [
    ⟨(some 16), none, .mv false (.t 0), none⟩,
    ⟨(some 17), none, .mv false (.t 5), none⟩,
    ⟨(some 18), none, .sls false 1 (.t 16) none (some (.t 17)), none⟩,
    ⟨(some 0), none, .mv false (.t 18), none⟩] (some [0])) (
  .skip)))) (
.seq (.reg false [
  ⟨(some 19), none, .mv false (.t 0), none⟩,
  ⟨(some 4), none, .mv false (.t 19), none⟩] (some [4])) (
.ret)))))
set_option maxRecDepth 1000000 in
theorem comp_cross_above : (Try.f24.body.bind fun code => compC Try.prog Try.f24.ntmps code c_cross_above) = some c_cross_above.bare := by kernel_rfl
def r_cross_above : List R := [.t 4]
theorem spo_cross_above {ds : List D} {d : D} (hn : Nat.ble ds.length 20 = true) (h : run TSpC gtab 0 c_cross_above (retK r_cross_above (· = d)) ⟨env0 0 ds, []⟩) : TSp 24 ds d := Sp_of mixed c_cross_above r_cross_above (fn := Try.f24) (by kernel_rfl) (by kernel_rfl) comp_cross_above (by kernel_rfl) hn h
theorem spm_cross_above {ds : List D} {d : D} {bx bx' : List Ent} (hn : Nat.ble ds.length 20 = true) (h : run TSpC gtab (sizeE bx) c_cross_above (retG r_cross_above (fun d1 bx1 => Rt (sizeE bx) bx1 d1 d bx')) ⟨env0 0 ds, bx⟩) : TSpM 24 ds bx d bx' := SpM_of mixed c_cross_above r_cross_above (fn := Try.f24) (by kernel_rfl) (by kernel_rfl) comp_cross_above (by kernel_rfl) hn h
/-- glazier/cross.down -/
def c_cross_down : C := .seq (.reg false [
  ⟨(some 9), none, .mv false (.t 0), none⟩,
  ⟨(some 10), none, .len false (.t 9), none⟩,
  ⟨(some 11), none, .bin .sub .i64 (.t 10) (.c (.int .i64 1)), none⟩,
  ⟨(some 8), none, .mv false (.t 11), none⟩] (some [0, 1, 2, 3, 8])) (
.blk 0 (
  .loop (
    .seq (.seq (.reg false [
      ⟨(some 12), none, .mv false (.t 8), none⟩,
      ⟨(some 13), none, .bin .geq .i64 (.t 12) (.c (.int .i64 0)), none⟩] (some [0, 1, 2, 3, 8, 13])) (
    .ite (.t 13) (
      .skip) (
      .exit 0))) (
    .seq (.blk 1 (
      .reg false [
        ⟨(some 16), none, .mv false (.t 3), none⟩,
        ⟨(some 17), none, .mv false (.t 0), none⟩,
        ⟨(some 18), none, .mv false (.t 8), none⟩,
        ⟨(some 19), none, .ixs 1 (.t 17) (.t 18), none⟩,
        ⟨(some 20), none, .ld none (.t 19), none⟩,
        ⟨(some 21), none, .mv false (.t 1), none⟩,
        ⟨(some 22), none, .mv false (.t 2), none⟩,
        ⟨(some 23), none, .bld [(.int .u32 0), (.bool false), (.int .i64 0)] [(0, none, (.t 20)), (1, none, (.t 21)), (2, none, (.t 22))], none⟩,
        ⟨(some 24), none, .callv true (.t 16) [(.t 23)], none⟩] (some [0, 1, 2, 3, 8]))) (
    .reg false [
      ⟨(some 14), none, .mv false (.t 8), none⟩,
      ⟨(some 15), none, .bin .sub .i64 (.t 14) (.c (.int .i64 1)), none⟩,
      ⟨(some 8), none, .mv false (.t 15), none⟩] (some [0, 1, 2, 3, 8]))))))
set_option maxRecDepth 1000000 in
theorem comp_cross_down : (Try.f25.body.bind fun code => compC Try.prog Try.f25.ntmps code c_cross_down) = some c_cross_down.bare := by kernel_rfl
def r_cross_down : List R := []
theorem spo_cross_down {ds : List D} {d : D} (hn : Nat.ble ds.length 25 = true) (h : run TSpC gtab 0 c_cross_down (retK r_cross_down (· = d)) ⟨env0 0 ds, []⟩) : TSp 25 ds d := Sp_of mixed c_cross_down r_cross_down (fn := Try.f25) (by kernel_rfl) (by kernel_rfl) comp_cross_down (by kernel_rfl) hn h
theorem spm_cross_down {ds : List D} {d : D} {bx bx' : List Ent} (hn : Nat.ble ds.length 25 = true) (h : run TSpC gtab (sizeE bx) c_cross_down (retG r_cross_down (fun d1 bx1 => Rt (sizeE bx) bx1 d1 d bx')) ⟨env0 0 ds, bx⟩) : TSpM 25 ds bx d bx' := SpM_of mixed c_cross_down r_cross_down (fn := Try.f25) (by kernel_rfl) (by kernel_rfl) comp_cross_down (by kernel_rfl) hn h
/-- glazier/glazierref36.in -/
def c_ref36_in : C := .seq (.reg false [
  ⟨(some 4), none, .mv false (.c (.bool false)), none⟩] (some [0, 1])) (
.seq (.seq (.reg false [
  ⟨(some 7), none, .mv false (.t 0), none⟩,
  ⟨(some 8), none, .len false (.t 7), none⟩,
  ⟨(some 9), none, .mv false (.c (.int .i64 0)), none⟩] (some [1, 7, 8, 9])) (
.blk 0 (
  .loop (
    .seq (.reg false [
      ⟨(some 10), none, .bin .lss .i64 (.t 9) (.t 8), none⟩] (some [1, 7, 8, 9, 10])) (
    .seq (.ite (.t 10) (
      .skip) (
      .exit 0)) (
    .seq (.blk 1 (
      .seq (.reg false [
        ⟨(some 11), none, .ixs 1 (.t 7) (.t 9), none⟩,
        ⟨(some 12), none, .ld none (.t 11), none⟩,
        ⟨(some 6), none, .mv false (.t 12), none⟩] (some [1, 6, 7, 8, 9])) (
      .seq (.reg false [
        ⟨(some 13), none, .mv false (.t 6), none⟩,
        ⟨(some 14), none, .mv false (.t 1), none⟩,
        ⟨(some 15), none, .bin .eql .u32 (.t 13) (.t 14), none⟩] (some [1, 7, 8, 9, 15])) (
      .ite (.t 15) (
        .seq (.reg false [
          ⟨(some 4), none, .mv false (.c (.bool true)), none⟩] (some [4])) (
        .ret)) (
        .skip))))) (
    .reg false [
      ⟨(some 16), none, .bin .add .i64 (.t 9) (.c (.int .i64 1)), none⟩,
      ⟨(some 9), none, .mv false (.t 16), none⟩] (some [1, 7, 8, 9])))))))) (
.seq (.reg false [
  ⟨(some 4), none, .mv false (.c (.bool false)), none⟩] (some [4])) (
.ret)))
set_option maxRecDepth 1000000 in
theorem comp_ref36_in : (Try.f26.body.bind fun code => compC Try.prog Try.f26.ntmps code c_ref36_in) = some c_ref36_in.bare := by kernel_rfl
def r_ref36_in : List R := [.t 4]
theorem spo_ref36_in {ds : List D} {d : D} (hn : Nat.ble ds.length 17 = true) (h : run TSpC gtab 0 c_ref36_in (retK r_ref36_in (· = d)) ⟨env0 0 ds, []⟩) : TSp 26 ds d := Sp_of mixed c_ref36_in r_ref36_in (fn := Try.f26) (by kernel_rfl) (by kernel_rfl) comp_ref36_in (by kernel_rfl) hn h
theorem spm_ref36_in {ds : List D} {d : D} {bx bx' : List Ent} (hn : Nat.ble ds.length 17 = true) (h : run TSpC gtab (sizeE bx) c_ref36_in (retG r_ref36_in (fun d1 bx1 => Rt (sizeE bx) bx1 d1 d bx')) ⟨env0 0 ds, bx⟩) : TSpM 26 ds bx d bx' := SpM_of mixed c_ref36_in r_ref36_in (fn := Try.f26) (by kernel_rfl) (by kernel_rfl) comp_ref36_in (by kernel_rfl) hn h
/-- glazier/glazierref36.Has -/
def c_ref36_Has : C := .seq (.reg false [
  ⟨(some 4), none, .mv false (.c (.bool false)), none⟩] (some [0, 1])) (
.seq (.reg false [
  ⟨(some 5), none, .mv false (.t 1), none⟩,
  ⟨(some 6), none, .bin .eql .u32 (.t 5) (.c (.int .u32 1)), none⟩,
  ⟨(some 7), none, .mv false (.t 6), none⟩,
  ⟨(some 8), some (7, false), .mv false (.t 0), none⟩,
  ⟨(some 9), some (7, false), .mv false (.t 1), none⟩,
  ⟨(some 10), some (7, false), .call false 28 [(.t 8), (.t 9)], none⟩,
  ⟨(some 11), some (7, false), .bin .neq .u32 (.t 10) (.c (.int .u32 0)), none⟩,
  ⟨(some 12), none, .pick (.t 7) (.c (.bool true)) (.t 11), none⟩,
  ⟨(some 4), none, .mv false (.t 12), none⟩] (some [4])) (
.ret))
set_option maxRecDepth 1000000 in
theorem comp_ref36_Has : (Try.f27.body.bind fun code => compC Try.prog Try.f27.ntmps code c_ref36_Has) = some c_ref36_Has.bare := by kernel_rfl
def r_ref36_Has : List R := [.t 4]
theorem spo_ref36_Has {ds : List D} {d : D} (hn : Nat.ble ds.length 13 = true) (h : run TSpC gtab 0 c_ref36_Has (retK r_ref36_Has (· = d)) ⟨env0 0 ds, []⟩) : TSp 27 ds d := Sp_of mixed c_ref36_Has r_ref36_Has (fn := Try.f27) (by kernel_rfl) (by kernel_rfl) comp_ref36_Has (by kernel_rfl) hn h
theorem spm_ref36_Has {ds : List D} {d : D} {bx bx' : List Ent} (hn : Nat.ble ds.length 13 = true) (h : run TSpC gtab (sizeE bx) c_ref36_Has (retG r_ref36_Has (fun d1 bx1 => Rt (sizeE bx) bx1 d1 d bx')) ⟨env0 0 ds, bx⟩) : TSpM 27 ds bx d bx' := SpM_of mixed c_ref36_Has r_ref36_Has (fn := Try.f27) (by kernel_rfl) (by kernel_rfl) comp_ref36_Has (by kernel_rfl) hn h
/-- glazier/glazierref36.Parent -/
def c_ref36_Parent : C := .seq (.reg false [
  ⟨(some 4), none, .mv false (.c (.int .u32 0)), none⟩] (some [0, 1])) (
.seq (.seq (.reg false [
  ⟨(some 7), none, .mv false (.t 0), none⟩,
  ⟨(some 8), none, .len false (.t 7), none⟩,
  ⟨(some 9), none, .mv false (.c (.int .i64 0)), none⟩] (some [1, 7, 8, 9])) (
.blk 0 (
  .loop (
    .seq (.reg false [
      ⟨(some 10), none, .bin .lss .i64 (.t 9) (.t 8), none⟩] (some [1, 7, 8, 9, 10])) (
    .seq (.ite (.t 10) (
      .skip) (
      .exit 0)) (
    .seq (.blk 1 (
      .seq (.reg false [
        ⟨(some 11), none, .ixs 2 (.t 7) (.t 9), none⟩,
        ⟨(some 12), none, .ld (some 2) (.t 11), none⟩,
        ⟨(some 6), none, .alloc [(.int .u32 0), (.int .u32 0)], none⟩,
        ⟨none, none, .st (some 2) (.t 6) (.t 12), none⟩] (some [1, 6, 7, 8, 9])) (
      .seq (.reg false [
        ⟨(some 13), none, .ixa 2 1 (.t 6) (.c (.int .i64 0)), none⟩,
        ⟨(some 14), none, .ld none (.t 13), none⟩,
        ⟨(some 15), none, .mv false (.t 1), none⟩,
        ⟨(some 16), none, .bin .eql .u32 (.t 14) (.t 15), none⟩] (some [1, 6, 7, 8, 9, 16])) (
      .ite (.t 16) (
        .seq (.reg false [
          ⟨(some 17), none, .ixa 2 1 (.t 6) (.c (.int .i64 1)), none⟩,
          ⟨(some 18), none, .ld none (.t 17), none⟩,
          ⟨(some 4), none, .mv false (.t 18), none⟩] (some [4])) (
        .ret)) (
        .skip))))) (
    .reg false [
      ⟨(some 19), none, .bin .add .i64 (.t 9) (.c (.int .i64 1)), none⟩,
      ⟨(some 9), none, .mv false (.t 19), none⟩] (some [1, 7, 8, 9])))))))) (
.seq (.reg false [
  ⟨(some 4), none, .mv false (.c (.int .u32 0)), none⟩] (some [4])) (
.ret)))
set_option maxRecDepth 1000000 in
theorem comp_ref36_Parent : (Try.f28.body.bind fun code => compC Try.prog Try.f28.ntmps code c_ref36_Parent) = some c_ref36_Parent.bare := by kernel_rfl
def r_ref36_Parent : List R := [.t 4]
theorem spo_ref36_Parent {ds : List D} {d : D} (hn : Nat.ble ds.length 20 = true) (h : run TSpC gtab 0 c_ref36_Parent (retK r_ref36_Parent (· = d)) ⟨env0 0 ds, []⟩) : TSp 28 ds d := Sp_of mixed c_ref36_Parent r_ref36_Parent (fn := Try.f28) (by kernel_rfl) (by kernel_rfl) comp_ref36_Parent (by kernel_rfl) hn h
theorem spm_ref36_Parent {ds : List D} {d : D} {bx bx' : List Ent} (hn : Nat.ble ds.length 20 = true) (h : run TSpC gtab (sizeE bx) c_ref36_Parent (retG r_ref36_Parent (fun d1 bx1 => Rt (sizeE bx) bx1 d1 d bx')) ⟨env0 0 ds, bx⟩) : TSpM 28 ds bx d bx' := SpM_of mixed c_ref36_Parent r_ref36_Parent (fn := Try.f28) (by kernel_rfl) (by kernel_rfl) comp_ref36_Parent (by kernel_rfl) hn h
/-- glazier/ident.Check -/
def c_ident_Check : C := .seq (.reg false [
  ⟨(some 2), none, .mv false (.c (.int .i64 0)), none⟩] (some [0])) (
.seq (.seq (.reg false [
  ⟨(some 5), none, .mv false (.t 0), none⟩,
  ⟨(some 6), none, .bin .eql .u32 (.t 5) (.c (.int .u32 0)), none⟩] (some [0, 6])) (
.ite (.t 6) (
  .seq (.reg false [
    ⟨(some 2), none, .mv false (.c (.int .i64 6)), none⟩] (some [2])) (
  .ret)) (
  .skip))) (
.seq (.seq (.reg false [
  ⟨(some 8), none, .mv false (.t 0), none⟩,
  ⟨(some 9), none, .call false 35 [(.t 8)], none⟩,
  ⟨(some 7), none, .mv false (.t 9), none⟩,
  ⟨(some 10), none, .ext (.t 7) 0, none⟩,
  ⟨(some 11), none, .ext (.t 7) 1, none⟩,
  ⟨(some 3), none, .mv false (.t 10), none⟩,
  ⟨(some 4), none, .mv false (.t 11), none⟩] (some [4])) (
.seq (.reg false [
  ⟨(some 12), none, .mv false (.t 4), none⟩,
  ⟨(some 13), none, .not (.t 12), none⟩] (some [13])) (
.ite (.t 13) (
  .seq (.reg false [
    ⟨(some 2), none, .mv false (.c (.int .i64 1)), none⟩] (some [2])) (
  .ret)) (
  .skip)))) (
.seq (.reg false [
  ⟨(some 2), none, .mv false (.c (.int .i64 0)), none⟩] (some [2])) (
.ret))))
set_option maxRecDepth 1000000 in
theorem comp_ident_Check : (Try.f29.body.bind fun code => compC Try.prog Try.f29.ntmps code c_ident_Check) = some c_ident_Check.bare := by kernel_rfl
def r_ident_Check : List R := [.t 2]
theorem spo_ident_Check {ds : List D} {d : D} (hn : Nat.ble ds.length 14 = true) (h : run TSpC gtab 0 c_ident_Check (retK r_ident_Check (· = d)) ⟨env0 0 ds, []⟩) : TSp 29 ds d := Sp_of mixed c_ident_Check r_ident_Check (fn := Try.f29) (by kernel_rfl) (by kernel_rfl) comp_ident_Check (by kernel_rfl) hn h
theorem spm_ident_Check {ds : List D} {d : D} {bx bx' : List Ent} (hn : Nat.ble ds.length 14 = true) (h : run TSpC gtab (sizeE bx) c_ident_Check (retG r_ident_Check (fun d1 bx1 => Rt (sizeE bx) bx1 d1 d bx')) ⟨env0 0 ds, bx⟩) : TSpM 29 ds bx d bx' := SpM_of mixed c_ident_Check r_ident_Check (fn := Try.f29) (by kernel_rfl) (by kernel_rfl) comp_ident_Check (by kernel_rfl) hn h
/-- (glazier/tree.Tree).Has -/
def c_tree_Tree_Has : C := .seq (.reg false [
  ⟨(some 2), none, .box true (.t 0), none⟩,
  ⟨(some 4), none, .mv false (.c (.bool false)), none⟩] (some [1, 2])) (
.seq (.reg false [
  ⟨(some 8), none, .fld 1 (.t 2), none⟩,
  ⟨(some 9), none, .ld none (.t 8), none⟩,
  ⟨(some 10), none, .mv false (.t 1), none⟩,
  ⟨(some 11), none, .prm false false (.lkp 27 true) [(.t 9), (.t 10)], none⟩,
  ⟨(some 7), none, .mv false (.t 11), none⟩,
  ⟨(some 12), none, .ext (.t 7) 0, none⟩,
  ⟨(some 13), none, .ext (.t 7) 1, none⟩,
  ⟨(some 5), none, .mv false (.t 12), none⟩,
  ⟨(some 6), none, .mv false (.t 13), none⟩] (some [1, 6])) (
.seq (.reg false [
  ⟨(some 14), none, .mv false (.t 6), none⟩,
  ⟨(some 15), none, .mv false (.t 14), none⟩,
  ⟨(some 16), some (15, false), .mv false (.t 1), none⟩,
  ⟨(some 17), some (15, false), .bin .eql .u32 (.t 16) (.c (.int .u32 1)), none⟩,
  ⟨(some 18), none, .pick (.t 15) (.c (.bool true)) (.t 17), none⟩,
  ⟨(some 4), none, .mv false (.t 18), none⟩] (some [4])) (
.ret)))
set_option maxRecDepth 1000000 in
theorem comp_tree_Tree_Has : (Try.f30.body.bind fun code => compC Try.prog Try.f30.ntmps code c_tree_Tree_Has) = some c_tree_Tree_Has.bare := by kernel_rfl
def r_tree_Tree_Has : List R := [.t 4]
theorem spo_tree_Tree_Has {ds : List D} {d : D} (hn : Nat.ble ds.length 19 = true) (h : run TSpC gtab 0 c_tree_Tree_Has (retK r_tree_Tree_Has (· = d)) ⟨env0 0 ds, []⟩) : TSp 30 ds d := Sp_of mixed c_tree_Tree_Has r_tree_Tree_Has (fn := Try.f30) (by kernel_rfl) (by kernel_rfl) comp_tree_Tree_Has (by kernel_rfl) hn h
theorem spm_tree_Tree_Has {ds : List D} {d : D} {bx bx' : List Ent} (hn : Nat.ble ds.length 19 = true) (h : run TSpC gtab (sizeE bx) c_tree_Tree_Has (retG r_tree_Tree_Has (fun d1 bx1 => Rt (sizeE bx) bx1 d1 d bx')) ⟨env0 0 ds, bx⟩) : TSpM 30 ds bx d bx' := SpM_of mixed c_tree_Tree_Has r_tree_Tree_Has (fn := Try.f30) (by kernel_rfl) (by kernel_rfl) comp_tree_Tree_Has (by kernel_rfl) hn h
/-- (glazier/tree.Tree).twin -/
def c_tree_Tree_twin : C := .seq (.reg false [
  ⟨(some 1), none, .box true (.t 0), none⟩,
  ⟨(some 2), none, .alloc [(.mp [] []), (.mp [] [])], none⟩] (some [1, 2])) (
.seq (.reg false [
  ⟨(some 6), none, .prm false true (.mkm 26) [], none⟩,
  ⟨(some 7), none, .prm false true (.mkm 27) [], none⟩,
  ⟨(some 8), none, .bld [(.mp [] []), (.mp [] [])] [(0, none, (.t 6)), (1, none, (.t 7))], none⟩,
  ⟨(some 3), none, .alloc [(.mp [] []), (.mp [] [])], none⟩,
  ⟨none, none, .st (some 2) (.t 3) (.t 8), none⟩] (some [1, 2, 3])) (
.seq (.reg false [
  ⟨(some 9), none, .fld 1 (.t 3), none⟩,
  ⟨(some 10), none, .ld none (.t 9), none⟩,
  ⟨(some 11), none, .fld 1 (.t 1), none⟩,
  ⟨(some 12), none, .ld none (.t 11), none⟩,
  ⟨(some 13), none, .call true 36 [(.t 10), (.t 12)], none⟩] (some [1, 2, 3])) (
.seq (.seq (.reg false [
  ⟨(some 14), none, .fld 0 (.t 1), none⟩,
  ⟨(some 15), none, .ld none (.t 14), none⟩,
  ⟨(some 16), none, .prm false true (.rng 26) [(.t 15)], none⟩] (some [2, 3, 16])) (
.blk 0 (
  .loop (
    .seq (.reg false [
      ⟨(some 17), none, .prm true false (.nxt false) [(.t 16)], none⟩,
      ⟨(some 18), none, .ext (.t 17) 0, none⟩] (some [2, 3, 16, 18])) (
    .seq (.ite (.t 18) (
      .skip) (
      .exit 0)) (
    .blk 1 (
      .seq (.reg false [
        ⟨(some 19), none, .prm false false .ent [(.t 16)], none⟩,
        ⟨(some 20), none, .ext (.t 19) 0, none⟩,
        ⟨(some 21), none, .ext (.t 19) 1, none⟩,
        ⟨(some 4), none, .mv false (.t 20), none⟩,
        ⟨(some 5), none, .mv false (.t 21), none⟩] (some [2, 3, 4, 5, 16])) (
      .reg true [
        ⟨(some 22), none, .fld 0 (.t 3), none⟩,
        ⟨(some 23), none, .ld none (.t 22), (some [5])⟩,
        ⟨(some 24), none, .mv false (.t 4), none⟩,
        ⟨(some 25), none, .mv false (.t 5), none⟩,
        ⟨(some 26), none, .callK [7] 37 [(.t 25)], none⟩,
        ⟨none, none, .prm false true (.upd 26) [(.t 23), (.t 24), (.t 26)], none⟩] (some [2, 3, 16]))))))))) (
.seq (.reg false [
  ⟨(some 27), none, .ld (some 2) (.t 3), none⟩,
  ⟨none, none, .st (some 2) (.t 2) (.t 27), none⟩] (some [2])) (
.ret)))))
set_option maxRecDepth 1000000 in
theorem comp_tree_Tree_twin : (Try.f31.body.bind fun code => compC Try.prog Try.f31.ntmps code c_tree_Tree_twin) = some c_tree_Tree_twin.bare := by kernel_rfl
def r_tree_Tree_twin : List R := [.cell 2 (some 2)]
theorem spo_tree_Tree_twin {ds : List D} {d : D} (hn : Nat.ble ds.length 28 = true) (h : run TSpC gtab 0 c_tree_Tree_twin (retK r_tree_Tree_twin (· = d)) ⟨env0 0 ds, []⟩) : TSp 31 ds d := Sp_of mixed c_tree_Tree_twin r_tree_Tree_twin (fn := Try.f31) (by kernel_rfl) (by kernel_rfl) comp_tree_Tree_twin (by kernel_rfl) hn h
theorem spm_tree_Tree_twin {ds : List D} {d : D} {bx bx' : List Ent} (hn : Nat.ble ds.length 28 = true) (h : run TSpC gtab (sizeE bx) c_tree_Tree_twin (retG r_tree_Tree_twin (fun d1 bx1 => Rt (sizeE bx) bx1 d1 d bx')) ⟨env0 0 ds, bx⟩) : TSpM 31 ds bx d bx' := SpM_of mixed c_tree_Tree_twin r_tree_Tree_twin (fn := Try.f31) (by kernel_rfl) (by kernel_rfl) comp_tree_Tree_twin (by kernel_rfl) hn h
/-- (glazier/tree.Tree).put -/
def c_tree_Tree_put : C := .seq (.reg false [
  ⟨(some 3), none, .box true (.t 0), none⟩] (some [1, 2, 3])) (
.seq (.reg true [
  ⟨(some 6), none, .fld 0 (.t 3), none⟩,
  ⟨(some 7), none, .ld none (.t 6), (some [3])⟩,
  ⟨(some 8), none, .mv false (.t 2), none⟩,
  ⟨(some 9), none, .fld 0 (.t 3), none⟩,
  ⟨(some 10), none, .ld none (.t 9), (some [3])⟩,
  ⟨(some 11), none, .mv false (.t 2), none⟩,
  ⟨(some 12), none, .prm false false (.lkp 26 false) [(.t 10), (.t 11)], none⟩,
  ⟨(some 13), none, .mv false (.t 1), none⟩,
  ⟨(some 14), none, .bsl none 24 1 none [(.t 13)], none⟩,
  ⟨(some 15), none, .app 24 1 4 (.t 12) (.t 14), (some [1])⟩,
  ⟨none, none, .prm false true (.upd 26) [(.t 7), (.t 8), (.t 15)], none⟩] (some [1, 2, 3])) (
.reg false [
  ⟨(some 16), none, .fld 1 (.t 3), none⟩,
  ⟨(some 17), none, .ld none (.t 16), none⟩,
  ⟨(some 18), none, .mv false (.t 1), none⟩,
  ⟨(some 19), none, .mv false (.t 2), none⟩,
  ⟨none, none, .prm false true (.upd 27) [(.t 17), (.t 18), (.t 19)], none⟩] (some [])))
set_option maxRecDepth 1000000 in
theorem comp_tree_Tree_put : (Try.f32.body.bind fun code => compC Try.prog Try.f32.ntmps code c_tree_Tree_put) = some c_tree_Tree_put.bare := by kernel_rfl
def r_tree_Tree_put : List R := []
theorem spo_tree_Tree_put {ds : List D} {d : D} (hn : Nat.ble ds.length 20 = true) (h : run TSpC gtab 0 c_tree_Tree_put (retK r_tree_Tree_put (· = d)) ⟨env0 0 ds, []⟩) : TSp 32 ds d := Sp_of mixed c_tree_Tree_put r_tree_Tree_put (fn := Try.f32) (by kernel_rfl) (by kernel_rfl) comp_tree_Tree_put (by kernel_rfl) hn h
theorem spm_tree_Tree_put {ds : List D} {d : D} {bx bx' : List Ent} (hn : Nat.ble ds.length 20 = true) (h : run TSpC gtab (sizeE bx) c_tree_Tree_put (retG r_tree_Tree_put (fun d1 bx1 => Rt (sizeE bx) bx1 d1 d bx')) ⟨env0 0 ds, bx⟩) : TSpM 32 ds bx d bx' := SpM_of mixed c_tree_Tree_put r_tree_Tree_put (fn := Try.f32) (by kernel_rfl) (by kernel_rfl) comp_tree_Tree_put (by kernel_rfl) hn h
/-- slices.Contains[[]glazier/api.ID,glazier/api.ID] -/
def c_slices_Contains_api_ID_api_ID : C := .seq (.reg false [
  ⟨(some 4), none, .mv false (.c (.bool false)), none⟩] (some [0, 1])) (
.seq (.reg false [
  ⟨(some 5), none, .mv false (.t 0), none⟩,
  ⟨(some 6), none, .mv false (.t 1), none⟩,
  ⟨(some 7), none, .call false 34 [(.t 5), (.t 6)], none⟩,
  ⟨(some 8), none, .bin .geq .i64 (.t 7) (.c (.int .i64 0)), none⟩,
  ⟨(some 4), none, .mv false (.t 8), none⟩] (some [4])) (
.ret))
set_option maxRecDepth 1000000 in
theorem comp_slices_Contains_api_ID_api_ID : (Try.f33.body.bind fun code => compC Try.prog Try.f33.ntmps code c_slices_Contains_api_ID_api_ID) = some c_slices_Contains_api_ID_api_ID.bare := by kernel_rfl
def r_slices_Contains_api_ID_api_ID : List R := [.t 4]
theorem spo_slices_Contains_api_ID_api_ID {ds : List D} {d : D} (hn : Nat.ble ds.length 9 = true) (h : run TSpC gtab 0 c_slices_Contains_api_ID_api_ID (retK r_slices_Contains_api_ID_api_ID (· = d)) ⟨env0 0 ds, []⟩) : TSp 33 ds d := Sp_of mixed c_slices_Contains_api_ID_api_ID r_slices_Contains_api_ID_api_ID (fn := Try.f33) (by kernel_rfl) (by kernel_rfl) comp_slices_Contains_api_ID_api_ID (by kernel_rfl) hn h
theorem spm_slices_Contains_api_ID_api_ID {ds : List D} {d : D} {bx bx' : List Ent} (hn : Nat.ble ds.length 9 = true) (h : run TSpC gtab (sizeE bx) c_slices_Contains_api_ID_api_ID (retG r_slices_Contains_api_ID_api_ID (fun d1 bx1 => Rt (sizeE bx) bx1 d1 d bx')) ⟨env0 0 ds, bx⟩) : TSpM 33 ds bx d bx' := SpM_of mixed c_slices_Contains_api_ID_api_ID r_slices_Contains_api_ID_api_ID (fn := Try.f33) (by kernel_rfl) (by kernel_rfl) comp_slices_Contains_api_ID_api_ID (by kernel_rfl) hn h
/-- slices.Index[[]glazier/api.ID,glazier/api.ID] -/
def c_slices_Index_api_ID_api_ID : C := .seq (.reg false [
  ⟨(some 4), none, .mv false (.c (.int .i64 0)), none⟩] (some [0, 1])) (
.seq (.seq (.reg false [
  ⟨(some 6), none, .mv false (.t 0), none⟩,
  ⟨(some 7), none, .len false (.t 6), none⟩,
  ⟨(some 8), none, .mv false (.c (.int .i64 0)), none⟩] (some [0, 1, 7, 8])) (
.blk 0 (
  .loop (
    .seq (.reg false [
      ⟨(some 9), none, .bin .lss .i64 (.t 8) (.t 7), none⟩] (some [0, 1, 7, 8, 9])) (
    .seq (.ite (.t 9) (
      .skip) (
      .exit 0)) (
    .seq (.blk 1 (
      .seq (.reg false [
        ⟨(some 10), none, .mv false (.t 8), none⟩,
        ⟨(some 5), none, .mv false (.t 10), none⟩] (some [0, 1, 5, 7, 8])) (
      .seq (.reg false [
        ⟨(some 11), none, .mv false (.t 1), none⟩,
        ⟨(some 12), none, .mv false (.t 0), none⟩,
        ⟨(some 13), none, .mv false (.t 5), none⟩,
        ⟨(some 14), none, .ixs 1 (.t 12) (.t 13), none⟩,
        ⟨(some 15), none, .ld none (.t 14), none⟩,
        ⟨(some 16), none, .bin .eql .u32 (.t 11) (.t 15), none⟩] (some [0, 1, 5, 7, 8, 16])) (
      .ite (.t 16) (
        .seq (.reg false [
          ⟨(some 17), none, .mv false (.t 5), none⟩,
          ⟨(some 4), none, .mv false (.t 17), none⟩] (some [4])) (
        .ret)) (
        .skip))))) (
    .reg false [
      ⟨(some 18), none, .bin .add .i64 (.t 8) (.c (.int .i64 1)), none⟩,
      ⟨(some 8), none, .mv false (.t 18), none⟩] (some [0, 1, 7, 8])))))))) (
.seq (.reg false [
  ⟨(some 4), none, .mv false (.c (.int .i64 (-1))), none⟩] (some [4])) (
.ret)))
set_option maxRecDepth 1000000 in
theorem comp_slices_Index_api_ID_api_ID : (Try.f34.body.bind fun code => compC Try.prog Try.f34.ntmps code c_slices_Index_api_ID_api_ID) = some c_slices_Index_api_ID_api_ID.bare := by kernel_rfl
def r_slices_Index_api_ID_api_ID : List R := [.t 4]
theorem spo_slices_Index_api_ID_api_ID {ds : List D} {d : D} (hn : Nat.ble ds.length 19 = true) (h : run TSpC gtab 0 c_slices_Index_api_ID_api_ID (retK r_slices_Index_api_ID_api_ID (· = d)) ⟨env0 0 ds, []⟩) : TSp 34 ds d := Sp_of mixed c_slices_Index_api_ID_api_ID r_slices_Index_api_ID_api_ID (fn := Try.f34) (by kernel_rfl) (by kernel_rfl) comp_slices_Index_api_ID_api_ID (by kernel_rfl) hn h
theorem spm_slices_Index_api_ID_api_ID {ds : List D} {d : D} {bx bx' : List Ent} (hn : Nat.ble ds.length 19 = true) (h : run TSpC gtab (sizeE bx) c_slices_Index_api_ID_api_ID (retG r_slices_Index_api_ID_api_ID (fun d1 bx1 => Rt (sizeE bx) bx1 d1 d bx')) ⟨env0 0 ds, bx⟩) : TSpM 34 ds bx d bx' := SpM_of mixed c_slices_Index_api_ID_api_ID r_slices_Index_api_ID_api_ID (fn := Try.f34) (by kernel_rfl) (by kernel_rfl) comp_slices_Index_api_ID_api_ID (by kernel_rfl) hn h
/-- glazier/ident.Client -/
def c_ident_Client : C := .seq (.reg false [
  ⟨(some 2), none, .mv false (.c (.int .i64 0)), none⟩,
  ⟨(some 3), none, .mv false (.c (.bool false)), none⟩] (some [0])) (
.seq (.seq (.reg false [
  ⟨(some 5), none, .mv false (.t 0), none⟩,
  ⟨(some 6), none, .bin .eql .u32 (.t 5) (.c (.int .u32 1)), none⟩] (some [0, 6])) (
.ite (.t 6) (
  .seq (.reg false [
    ⟨(some 2), none, .mv false (.c (.int .i64 0)), none⟩,
    ⟨(some 3), none, .mv false (.c (.bool true)), none⟩] (some [2, 3])) (
  .ret)) (
  .skip))) (
.seq (.reg false [
  ⟨(some 7), none, .mv false (.t 0), none⟩,
  ⟨(some 8), none, .bin .quo .u32 (.t 7) (.c (.int .u32 1048576)), none⟩,
  ⟨(some 9), none, .conv .i64 (.t 8), none⟩,
  ⟨(some 4), none, .mv false (.t 9), none⟩] (some [0, 4])) (
.seq (.seq (.reg false [
  ⟨(some 10), none, .mv false (.t 0), none⟩,
  ⟨(some 11), none, .bin .rem .u32 (.t 10) (.c (.int .u32 1048576)), none⟩,
  ⟨(some 12), none, .bin .eql .u32 (.t 11) (.c (.int .u32 0)), none⟩,
  ⟨(some 13), none, .mv false (.t 12), none⟩,
  ⟨(some 14), some (13, false), .mv false (.t 4), none⟩,
  ⟨(some 15), some (13, false), .call false 38 [(.t 14)], none⟩,
  ⟨(some 16), some (13, false), .not (.t 15), none⟩,
  ⟨(some 17), none, .pick (.t 13) (.c (.bool true)) (.t 16), none⟩] (some [4, 17])) (
.ite (.t 17) (
  .seq (.reg false [
    ⟨(some 2), none, .mv false (.c (.int .i64 0)), none⟩,
    ⟨(some 3), none, .mv false (.c (.bool false)), none⟩] (some [2, 3])) (
  .ret)) (
  .skip))) (
.seq (.reg false [
  ⟨(some 18), none, .mv false (.t 4), none⟩,
  ⟨(some 2), none, .mv false (.t 18), none⟩,
  ⟨(some 3), none, .mv false (.c (.bool true)), none⟩] (some [2, 3])) (
.ret)))))
set_option maxRecDepth 1000000 in
theorem comp_ident_Client : (Try.f35.body.bind fun code => compC Try.prog Try.f35.ntmps code c_ident_Client) = some c_ident_Client.bare := by kernel_rfl
def r_ident_Client : List R := [.t 2, .t 3]
theorem spo_ident_Client {ds : List D} {d : D} (hn : Nat.ble ds.length 19 = true) (h : run TSpC gtab 0 c_ident_Client (retK r_ident_Client (· = d)) ⟨env0 0 ds, []⟩) : TSp 35 ds d := Sp_of mixed c_ident_Client r_ident_Client (fn := Try.f35) (by kernel_rfl) (by kernel_rfl) comp_ident_Client (by kernel_rfl) hn h
theorem spm_ident_Client {ds : List D} {d : D} {bx bx' : List Ent} (hn : Nat.ble ds.length 19 = true) (h : run TSpC gtab (sizeE bx) c_ident_Client (retG r_ident_Client (fun d1 bx1 => Rt (sizeE bx) bx1 d1 d bx')) ⟨env0 0 ds, bx⟩) : TSpM 35 ds bx d bx' := SpM_of mixed c_ident_Client r_ident_Client (fn := Try.f35) (by kernel_rfl) (by kernel_rfl) comp_ident_Client (by kernel_rfl) hn h
/-- maps.Copy[map[glazier/api.ID]glazier/api.ID,map[glazier/api.ID]glazier/api.ID,glazier/api.ID,glazier/api.ID] -/
def c_maps_Copy_map_api_ID_api_ID_map_api_ID_api_ID_api_ID_api_ID : C := .seq (.reg false [
  ⟨(some 6), none, .mv false (.t 1), none⟩,
  ⟨(some 7), none, .prm false true (.rng 27) [(.t 6)], none⟩] (some [0, 7])) (
.blk 0 (
  .loop (
    .seq (.reg false [
      ⟨(some 8), none, .prm true false (.nxt false) [(.t 7)], none⟩,
      ⟨(some 9), none, .ext (.t 8) 0, none⟩] (some [0, 7, 9])) (
    .seq (.ite (.t 9) (
      .skip) (
      .exit 0)) (
    .blk 1 (
      .seq (.reg false [
        ⟨(some 10), none, .prm false false .ent [(.t 7)], none⟩,
        ⟨(some 11), none, .ext (.t 10) 0, none⟩,
        ⟨(some 12), none, .ext (.t 10) 1, none⟩,
        ⟨(some 4), none, .mv false (.t 11), none⟩,
        ⟨(some 5), none, .mv false (.t 12), none⟩] (some [0, 4, 5, 7])) (
      .reg false [
        ⟨(some 13), none, .mv false (.t 0), none⟩,
        ⟨(some 14), none, .mv false (.t 4), none⟩,
        ⟨(some 15), none, .mv false (.t 5), none⟩,
        ⟨none, none, .prm false true (.upd 27) [(.t 13), (.t 14), (.t 15)], none⟩] (some [0, 7]))))))))
set_option maxRecDepth 1000000 in
theorem comp_maps_Copy_map_api_ID_api_ID_map_api_ID_api_ID_api_ID_api_ID : (Try.f36.body.bind fun code => compC Try.prog Try.f36.ntmps code c_maps_Copy_map_api_ID_api_ID_map_api_ID_api_ID_api_ID_api_ID) = some c_maps_Copy_map_api_ID_api_ID_map_api_ID_api_ID_api_ID_api_ID.bare := by kernel_rfl
def r_maps_Copy_map_api_ID_api_ID_map_api_ID_api_ID_api_ID_api_ID : List R := []
theorem spo_maps_Copy_map_api_ID_api_ID_map_api_ID_api_ID_api_ID_api_ID {ds : List D} {d : D} (hn : Nat.ble ds.length 16 = true) (h : run TSpC gtab 0 c_maps_Copy_map_api_ID_api_ID_map_api_ID_api_ID_api_ID_api_ID (retK r_maps_Copy_map_api_ID_api_ID_map_api_ID_api_ID_api_ID_api_ID (· = d)) ⟨env0 0 ds, []⟩) : TSp 36 ds d := Sp_of mixed c_maps_Copy_map_api_ID_api_ID_map_api_ID_api_ID_api_ID_api_ID r_maps_Copy_map_api_ID_api_ID_map_api_ID_api_ID_api_ID_api_ID (fn := Try.f36) (by kernel_rfl) (by kernel_rfl) comp_maps_Copy_map_api_ID_api_ID_map_api_ID_api_ID_api_ID_api_ID (by kernel_rfl) hn h
theorem spm_maps_Copy_map_api_ID_api_ID_map_api_ID_api_ID_api_ID_api_ID {ds : List D} {d : D} {bx bx' : List Ent} (hn : Nat.ble ds.length 16 = true) (h : run TSpC gtab (sizeE bx) c_maps_Copy_map_api_ID_api_ID_map_api_ID_api_ID_api_ID_api_ID (retG r_maps_Copy_map_api_ID_api_ID_map_api_ID_api_ID_api_ID_api_ID (fun d1 bx1 => Rt (sizeE bx) bx1 d1 d bx')) ⟨env0 0 ds, bx⟩) : TSpM 36 ds bx d bx' := SpM_of mixed c_maps_Copy_map_api_ID_api_ID_map_api_ID_api_ID_api_ID_api_ID r_maps_Copy_map_api_ID_api_ID_map_api_ID_api_ID_api_ID_api_ID (fn := Try.f36) (by kernel_rfl) (by kernel_rfl) comp_maps_Copy_map_api_ID_api_ID_map_api_ID_api_ID_api_ID_api_ID (by kernel_rfl) hn h
/-- slices.Clone[[]glazier/api.ID,glazier/api.ID] -/
def c_slices_Clone_api_ID_api_ID : C := .seq (.reg false [
  ⟨(some 2), none, .nilS 24 1, none⟩] (some [0])) (
.seq (.seq (.reg false [
  ⟨(some 3), none, .mv false (.t 0), none⟩,
  ⟨(some 4), none, .prm true false (.eqn false 43) [(.t 3)], none⟩] (some [0, 4])) (
.ite (.t 4) (
  .seq (.reg false [
    ⟨(some 2), none, .nilS 24 1, none⟩] (some [2])) (
  .ret)) (
  .skip))) (
.seq (.reg false [
  ⟨(some 5), none, .bsl (some false) 24 1 none [], none⟩,
  ⟨(some 6), none, .mv false (.t 0), none⟩,
  ⟨(some 7), none, .app 24 1 4 (.t 5) (.t 6), none⟩,
  ⟨(some 2), none, .mv false (.t 7), none⟩] (some [2])) (
.ret)))
set_option maxRecDepth 1000000 in
theorem comp_slices_Clone_api_ID_api_ID : (Try.f37.body.bind fun code => compC Try.prog Try.f37.ntmps code c_slices_Clone_api_ID_api_ID) = some c_slices_Clone_api_ID_api_ID.bare := by kernel_rfl
def r_slices_Clone_api_ID_api_ID : List R := [.t 2]
theorem spo_slices_Clone_api_ID_api_ID {ds : List D} {d : D} (hn : Nat.ble ds.length 8 = true) (h : run TSpC gtab 0 c_slices_Clone_api_ID_api_ID (retK r_slices_Clone_api_ID_api_ID (· = d)) ⟨env0 0 ds, []⟩) : TSp 37 ds d := Sp_of mixed c_slices_Clone_api_ID_api_ID r_slices_Clone_api_ID_api_ID (fn := Try.f37) (by kernel_rfl) (by kernel_rfl) comp_slices_Clone_api_ID_api_ID (by kernel_rfl) hn h
theorem spm_slices_Clone_api_ID_api_ID {ds : List D} {d : D} {bx bx' : List Ent} (hn : Nat.ble ds.length 8 = true) (h : run TSpC gtab (sizeE bx) c_slices_Clone_api_ID_api_ID (retG r_slices_Clone_api_ID_api_ID (fun d1 bx1 => Rt (sizeE bx) bx1 d1 d bx')) ⟨env0 0 ds, bx⟩) : TSpM 37 ds bx d bx' := SpM_of mixed c_slices_Clone_api_ID_api_ID r_slices_Clone_api_ID_api_ID (fn := Try.f37) (by kernel_rfl) (by kernel_rfl) comp_slices_Clone_api_ID_api_ID (by kernel_rfl) hn h
/-- glazier/ident.isClient -/
def c_ident_isClient : C := .seq (.reg false [
  ⟨(some 2), none, .mv false (.c (.bool false)), none⟩] (some [0])) (
.seq (.reg false [
  ⟨(some 3), none, .mv false (.t 0), none⟩,
  ⟨(some 4), none, .bin .leq .i64 (.c (.int .i64 1)) (.t 3), none⟩,
  ⟨(some 5), none, .mv false (.t 4), none⟩,
  ⟨(some 6), some (5, true), .mv false (.t 0), none⟩,
  ⟨(some 7), some (5, true), .bin .leq .i64 (.t 6) (.c (.int .i64 8)), none⟩,
  ⟨(some 8), none, .pick (.t 5) (.t 7) (.c (.bool false)), none⟩,
  ⟨(some 2), none, .mv false (.t 8), none⟩] (some [2])) (
.ret))
set_option maxRecDepth 1000000 in
theorem comp_ident_isClient : (Try.f38.body.bind fun code => compC Try.prog Try.f38.ntmps code c_ident_isClient) = some c_ident_isClient.bare := by kernel_rfl
def r_ident_isClient : List R := [.t 2]
theorem spo_ident_isClient {ds : List D} {d : D} (hn : Nat.ble ds.length 9 = true) (h : run TSpC gtab 0 c_ident_isClient (retK r_ident_isClient (· = d)) ⟨env0 0 ds, []⟩) : TSp 38 ds d := Sp_of mixed c_ident_isClient r_ident_isClient (fn := Try.f38) (by kernel_rfl) (by kernel_rfl) comp_ident_isClient (by kernel_rfl) hn h
theorem spm_ident_isClient {ds : List D} {d : D} {bx bx' : List Ent} (hn : Nat.ble ds.length 9 = true) (h : run TSpC gtab (sizeE bx) c_ident_isClient (retG r_ident_isClient (fun d1 bx1 => Rt (sizeE bx) bx1 d1 d bx')) ⟨env0 0 ds, bx⟩) : TSpM 38 ds bx d bx' := SpM_of mixed c_ident_isClient r_ident_isClient (fn := Try.f38) (by kernel_rfl) (by kernel_rfl) comp_ident_isClient (by kernel_rfl) hn h
/-- glazier/glazierlaw36.CrossPaths -/
def c_law36_CrossPaths : C := .seq (.reg false [
  ⟨(some 6), none, .mv false (.c (.bool false)), none⟩] (some [0, 1, 2])) (
.seq (.seq (.reg false [
  ⟨(some 10), none, .mv false (.t 0), none⟩,
  ⟨(some 11), none, .len false (.t 10), none⟩,
  ⟨(some 12), none, .bin .gtr .i64 (.t 11) (.c (.int .i64 20)), none⟩] (some [0, 1, 2, 12])) (
.ite (.t 12) (
  .seq (.reg false [
    ⟨(some 13), none, .call false 9 [], none⟩,
    ⟨(some 6), none, .mv false (.t 13), none⟩] (some [6])) (
  .ret)) (
  .skip))) (
.seq (.reg false [
  ⟨(some 15), none, .mv false (.t 0), none⟩,
  ⟨(some 16), none, .call false 10 [(.t 15)], none⟩,
  ⟨(some 14), none, .mv false (.t 16), none⟩,
  ⟨(some 17), none, .ext (.t 14) 0, none⟩,
  ⟨(some 18), none, .ext (.t 14) 1, none⟩,
  ⟨(some 19), none, .ext (.t 14) 2, none⟩,
  ⟨(some 7), none, .alloc [(.mp [] []), (.mp [] [])], none⟩,
  ⟨none, none, .st (some 2) (.t 7) (.t 17), none⟩,
  ⟨(some 8), none, .mv false (.t 18), none⟩,
  ⟨(some 9), none, .mv false (.t 19), none⟩] (some [1, 2, 7, 8, 9])) (
.seq (.reg false [
  ⟨(some 20), none, .mv false (.t 9), none⟩,
  ⟨(some 21), none, .mv false (.t 20), none⟩,
  ⟨(some 22), some (21, true), .ld (some 2) (.t 7), none⟩,
  ⟨(some 23), some (21, true), .mv false (.t 1), none⟩,
  ⟨(some 24), some (21, true), .mv false (.t 2), none⟩,
  ⟨(some 25), some (21, true), .call false 12 [(.t 22), (.t 23), (.t 24)], none⟩,
  ⟨(some 26), some (21, true), .mv false (.t 8), none⟩,
  ⟨(some 27), some (21, true), .mv false (.t 1), none⟩,
  ⟨(some 28), some (21, true), .mv false (.t 2), none⟩,
  ⟨(some 29), some (21, true), .call false 13 [(.t 26), (.t 27), (.t 28)], none⟩,
  ⟨(some 30), some (21, true), .call false 11 [(.t 25), (.t 29)], none⟩,
  ⟨(some 31), none, .pick (.t 21) (.t 30) (.c (.bool false)), none⟩,
  ⟨(some 32), none, .mv false (.t 31), none⟩,
  ⟨(some 33), some (32, true), .call false 9 [], none⟩,
  ⟨(some 34), none, .pick (.t 32) (.t 33) (.c (.bool false)), none⟩,
  ⟨(some 6), none, .mv false (.t 34), none⟩] (some [6])) (
.ret))))
set_option maxRecDepth 1000000 in
theorem comp_law36_CrossPaths : (Try.f3.body.bind fun code => compC Try.prog Try.f3.ntmps code c_law36_CrossPaths) = some c_law36_CrossPaths.bare := by kernel_rfl
def r_law36_CrossPaths : List R := [.t 6]
theorem spo_law36_CrossPaths {ds : List D} {d : D} (hn : Nat.ble ds.length 35 = true) (h : run TSpC gtab 0 c_law36_CrossPaths (retK r_law36_CrossPaths (· = d)) ⟨env0 0 ds, []⟩) : TSp 3 ds d := Sp_of mixed c_law36_CrossPaths r_law36_CrossPaths (fn := Try.f3) (by kernel_rfl) (by kernel_rfl) comp_law36_CrossPaths (by kernel_rfl) hn h
theorem spm_law36_CrossPaths {ds : List D} {d : D} {bx bx' : List Ent} (hn : Nat.ble ds.length 35 = true) (h : run TSpC gtab (sizeE bx) c_law36_CrossPaths (retG r_law36_CrossPaths (fun d1 bx1 => Rt (sizeE bx) bx1 d1 d bx')) ⟨env0 0 ds, bx⟩) : TSpM 3 ds bx d bx' := SpM_of mixed c_law36_CrossPaths r_law36_CrossPaths (fn := Try.f3) (by kernel_rfl) (by kernel_rfl) comp_law36_CrossPaths (by kernel_rfl) hn h
/-- glazier/glazierlaw36.CrossEnds -/
def c_law36_CrossEnds : C := .seq (.reg false [
  ⟨(some 4), none, .mv false (.c (.bool false)), none⟩] (some [0, 1])) (
.seq (.seq (.reg false [
  ⟨(some 22), none, .mv false (.t 0), none⟩,
  ⟨(some 23), none, .len false (.t 22), none⟩,
  ⟨(some 24), none, .bin .gtr .i64 (.t 23) (.c (.int .i64 20)), none⟩,
  ⟨(some 25), none, .mv false (.t 24), none⟩,
  ⟨(some 26), some (25, false), .mv false (.t 1), none⟩,
  ⟨(some 27), some (25, false), .len false (.t 26), none⟩,
  ⟨(some 28), some (25, false), .bin .gtr .i64 (.t 27) (.c (.int .i64 20)), none⟩,
  ⟨(some 29), none, .pick (.t 25) (.c (.bool true)) (.t 28), none⟩] (some [0, 1, 29])) (
.ite (.t 29) (
  .seq (.reg false [
    ⟨(some 30), none, .call false 9 [], none⟩,
    ⟨(some 4), none, .mv false (.t 30), none⟩] (some [4])) (
  .ret)) (
  .skip))) (
.seq (.reg false [
  ⟨(some 32), none, .mv false (.t 0), none⟩,
  ⟨(some 33), none, .call false 10 [(.t 32)], none⟩,
  ⟨(some 31), none, .mv false (.t 33), none⟩,
  ⟨(some 34), none, .ext (.t 31) 0, none⟩,
  ⟨(some 35), none, .ext (.t 31) 1, none⟩,
  ⟨(some 36), none, .ext (.t 31) 2, none⟩,
  ⟨(some 5), none, .alloc [(.mp [] []), (.mp [] [])], none⟩,
  ⟨none, none, .st (some 2) (.t 5) (.t 34), none⟩,
  ⟨(some 6), none, .mv false (.t 35), none⟩,
  ⟨(some 7), none, .mv false (.t 36), none⟩] (some [0, 1, 5, 6, 7])) (
.seq (.seq (.reg false [
  ⟨(some 37), none, .mv false (.t 7), none⟩,
  ⟨(some 38), none, .not (.t 37), none⟩] (some [0, 1, 5, 6, 38])) (
.ite (.t 38) (
  .seq (.reg false [
    ⟨(some 4), none, .mv false (.c (.bool false)), none⟩] (some [4])) (
  .ret)) (
  .skip))) (
.seq (.reg false [
  ⟨(some 39), none, .prm false true (.mkm 39) [], none⟩,
  ⟨(some 8), none, .mv false (.t 39), none⟩] (some [0, 1, 5, 6, 8])) (
.seq (.reg false [
  ⟨(some 9), none, .mv false (.c (.int .u32 0)), none⟩] (some [0, 1, 5, 6, 8, 9])) (
.seq (.seq (.reg false [
  ⟨(some 40), none, .mv false (.t 1), none⟩,
  ⟨(some 41), none, .len false (.t 40), none⟩,
  ⟨(some 42), none, .mv false (.c (.int .i64 0)), none⟩] (some [0, 5, 6, 8, 9, 40, 41, 42])) (
.blk 0 (
  .loop (
    .seq (.reg false [
      ⟨(some 43), none, .bin .lss .i64 (.t 42) (.t 41), none⟩] (some [0, 5, 6, 8, 9, 40, 41, 42, 43])) (
    .seq (.ite (.t 43) (
      .skip) (
      .exit 0)) (
    .seq (.blk 1 (
      .seq (.reg false [
        ⟨(some 44), none, .ixs 1 (.t 40) (.t 42), none⟩,
        ⟨(some 45), none, .ld none (.t 44), none⟩,
        ⟨(some 11), none, .mv false (.t 45), none⟩] (some [0, 5, 6, 8, 9, 11, 40, 41, 42])) (
      .seq (.reg false [
        ⟨(some 12), none, .mv false (.c (.int .u32 0)), none⟩] (some [0, 5, 6, 8, 9, 11, 12, 40, 41, 42])) (
      .seq (.seq (.reg false [
        ⟨(some 46), none, .mv false (.t 11), none⟩,
        ⟨(some 47), none, .conv .i64 (.t 46), none⟩,
        ⟨(some 48), none, .mv false (.t 0), none⟩,
        ⟨(some 49), none, .len false (.t 48), none⟩,
        ⟨(some 50), none, .bin .add .i64 (.t 49) (.c (.int .i64 2)), none⟩,
        ⟨(some 51), none, .bin .rem .i64 (.t 47) (.t 50), none⟩,
        ⟨(some 13), none, .mv false (.t 51), none⟩] (some [0, 5, 6, 8, 9, 12, 13, 40, 41, 42])) (
      .seq (.reg false [
        ⟨(some 52), none, .mv false (.t 13), none⟩,
        ⟨(some 53), none, .bin .gtr .i64 (.t 52) (.c (.int .i64 0)), none⟩] (some [0, 5, 6, 8, 9, 12, 13, 40, 41, 42, 53])) (
      .ite (.t 53) (
        .reg false [
          ⟨(some 54), none, .mv false (.t 13), none⟩,
          ⟨(some 55), none, .bin .sub .i64 (.t 54) (.c (.int .i64 1)), none⟩,
          ⟨(some 56), none, .call false 14 [(.t 55)], none⟩,
          ⟨(some 12), none, .mv false (.t 56), none⟩] (some [0, 5, 6, 8, 9, 12, 40, 41, 42])) (
        .skip)))) (
      .seq (.seq (.reg false [
        ⟨(some 57), none, .ld (some 2) (.t 5), none⟩,
        ⟨(some 58), none, .mv false (.t 9), none⟩,
        ⟨(some 59), none, .mv false (.t 12), none⟩,
        ⟨(some 60), none, .call false 12 [(.t 57), (.t 58), (.t 59)], none⟩,
        ⟨(some 61), none, .len false (.t 60), none⟩,
        ⟨(some 62), none, .mv false (.c (.int .i64 0)), none⟩] (some [0, 5, 6, 8, 12, 40, 41, 42, 60, 61, 62])) (
      .blk 2 (
        .loop (
          .seq (.reg false [
            ⟨(some 63), none, .bin .lss .i64 (.t 62) (.t 61), none⟩] (some [0, 5, 6, 8, 12, 40, 41, 42, 60, 61, 62, 63])) (
          .seq (.ite (.t 63) (
            .skip) (
            .exit 2)) (
          .seq (.blk 3 (
            .seq (.reg false [
              ⟨(some 64), none, .ixs 3 (.t 60) (.t 62), none⟩,
              ⟨(some 65), none, .ld (some 3) (.t 64), none⟩,
              ⟨(some 15), none, .alloc [(.int .u32 0), (.bool false), (.int .i64 0)], none⟩,
              ⟨none, none, .st (some 3) (.t 15) (.t 65), none⟩] (some [0, 5, 6, 8, 12, 15, 40, 41, 42, 60, 61, 62])) (
            .seq (.reg false [
              ⟨(some 66), none, .fld 2 (.t 15), none⟩,
              ⟨(some 67), none, .ld none (.t 66), none⟩,
              ⟨(some 68), none, .bin .eql .i64 (.t 67) (.c (.int .i64 2)), none⟩,
              ⟨(some 16), none, .mv false (.t 68), none⟩] (some [0, 5, 6, 8, 12, 15, 16, 40, 41, 42, 60, 61, 62])) (
            .seq (.seq (.reg false [
              ⟨(some 69), none, .mv false (.t 16), none⟩,
              ⟨(some 70), none, .not (.t 69), none⟩,
              ⟨(some 71), none, .mv false (.t 70), none⟩,
              ⟨(some 72), some (71, true), .mv false (.t 8), none⟩,
              ⟨(some 73), some (71, true), .fld 0 (.t 15), none⟩,
              ⟨(some 74), some (71, true), .ld none (.t 73), none⟩,
              ⟨(some 75), some (71, true), .prm false false (.lkp 39 false) [(.t 72), (.t 74)], none⟩,
              ⟨(some 76), some (71, true), .fld 1 (.t 15), none⟩,
              ⟨(some 77), some (71, true), .ld none (.t 76), none⟩,
              ⟨(some 78), some (71, true), .eqb false false (.t 75) (.t 77), none⟩,
              ⟨(some 79), none, .pick (.t 71) (.t 78) (.c (.bool false)), none⟩,
              ⟨(some 80), none, .mv false (.t 79), none⟩,
              ⟨(some 81), some (80, false), .mv false (.t 16), none⟩,
              ⟨(some 82), some (80, false), .mv false (.t 81), none⟩,
              ⟨(some 83), some (82, true), .mv false (.t 8), none⟩,
              ⟨(some 84), some (82, true), .fld 0 (.t 15), none⟩,
              ⟨(some 85), some (82, true), .ld none (.t 84), none⟩,
              ⟨(some 86), some (82, true), .prm false false (.lkp 39 false) [(.t 83), (.t 85)], none⟩,
              ⟨(some 87), some (82, true), .not (.t 86), none⟩,
              ⟨(some 88), some (80, false), .pick (.t 82) (.t 87) (.c (.bool false)), none⟩,
              ⟨(some 89), none, .pick (.t 80) (.c (.bool true)) (.t 88), none⟩] (some [0, 5, 6, 8, 12, 15, 16, 40, 41, 42, 60, 61, 62, 89])) (
            .ite (.t 89) (
              .seq (.reg false [
                ⟨(some 4), none, .mv false (.c (.bool false)), none⟩] (some [4])) (
              .ret)) (
              .skip))) (
            .reg false [
              ⟨(some 90), none, .mv false (.t 8), none⟩,
              ⟨(some 91), none, .fld 0 (.t 15), none⟩,
              ⟨(some 92), none, .ld none (.t 91), none⟩,
              ⟨(some 93), none, .fld 1 (.t 15), none⟩,
              ⟨(some 94), none, .ld none (.t 93), none⟩,
              ⟨(some 95), none, .mv false (.t 94), none⟩,
              ⟨(some 96), some (95, false), .mv false (.t 16), none⟩,
              ⟨(some 97), none, .pick (.t 95) (.c (.bool true)) (.t 96), none⟩,
              ⟨none, none, .prm false true (.upd 39) [(.t 90), (.t 92), (.t 97)], none⟩] (some [0, 5, 6, 8, 12, 40, 41, 42, 60, 61, 62])))))) (
          .reg false [
            ⟨(some 98), none, .bin .add .i64 (.t 62) (.c (.int .i64 1)), none⟩,
            ⟨(some 62), none, .mv false (.t 98), none⟩] (some [0, 5, 6, 8, 12, 40, 41, 42, 60, 61, 62])))))))) (
      .seq (.reg false [
        ⟨(some 17), none, .mv false (.c (.int .i64 0)), none⟩] (some [0, 5, 6, 8, 12, 17, 40, 41, 42])) (
      .seq (.seq (.reg false [
        ⟨(some 99), none, .mv false (.t 6), none⟩,
        ⟨(some 100), none, .mv false (.t 12), none⟩,
        ⟨(some 101), none, .call false 15 [(.t 99), (.t 100)], none⟩,
        ⟨(some 102), none, .len false (.t 101), none⟩,
        ⟨(some 103), none, .mv false (.c (.int .i64 0)), none⟩] (some [0, 5, 6, 8, 12, 17, 40, 41, 42, 101, 102, 103])) (
      .blk 4 (
        .loop (
          .seq (.reg false [
            ⟨(some 104), none, .bin .lss .i64 (.t 103) (.t 102), none⟩] (some [0, 5, 6, 8, 12, 17, 40, 41, 42, 101, 102, 103, 104])) (
          .seq (.ite (.t 104) (
            .skip) (
            .exit 4)) (
          .seq (.blk 5 (
            .seq (.reg false [
              ⟨(some 105), none, .ixs 1 (.t 101) (.t 103), none⟩,
              ⟨(some 106), none, .ld none (.t 105), none⟩,
              ⟨(some 19), none, .mv false (.t 106), none⟩] (some [0, 5, 6, 8, 12, 17, 19, 40, 41, 42, 101, 102, 103])) (
            .seq (.seq (.reg false [
              ⟨(some 107), none, .mv false (.t 8), none⟩,
              ⟨(some 108), none, .mv false (.t 19), none⟩,
              ⟨(some 109), none, .prm false false (.lkp 39 false) [(.t 107), (.t 108)], none⟩,
              ⟨(some 110), none, .not (.t 109), none⟩] (some [0, 5, 6, 8, 12, 17, 40, 41, 42, 101, 102, 103, 110])) (
            .ite (.t 110) (
              .seq (.reg false [
                ⟨(some 4), none, .mv false (.c (.bool false)), none⟩] (some [4])) (
              .ret)) (
              .skip))) (
            .reg false [
              ⟨(some 111), none, .mv false (.t 17), none⟩,
              ⟨(some 112), none, .bin .add .i64 (.t 111) (.c (.int .i64 1)), none⟩,
              ⟨(some 17), none, .mv false (.t 112), none⟩] (some [0, 5, 6, 8, 12, 17, 40, 41, 42, 101, 102, 103]))))) (
          .reg false [
            ⟨(some 113), none, .bin .add .i64 (.t 103) (.c (.int .i64 1)), none⟩,
            ⟨(some 103), none, .mv false (.t 113), none⟩] (some [0, 5, 6, 8, 12, 17, 40, 41, 42, 101, 102, 103])))))))) (
      .seq (.seq (.reg false [
        ⟨(some 114), none, .mv false (.t 8), none⟩,
        ⟨(some 115), none, .prm true true (.rng 39) [(.t 114)], none⟩] (some [0, 5, 6, 8, 12, 17, 40, 41, 42, 115])) (
      .blk 6 (
        .loop (
          .seq (.reg false [
            ⟨(some 116), none, .prm true false (.nxt false) [(.t 115)], none⟩,
            ⟨(some 117), none, .ext (.t 116) 0, none⟩] (some [0, 5, 6, 8, 12, 17, 40, 41, 42, 115, 117])) (
          .seq (.ite (.t 117) (
            .skip) (
            .exit 6)) (
          .blk 7 (
            .seq (.reg false [
              ⟨(some 118), none, .prm false false .ent [(.t 115)], none⟩,
              ⟨(some 119), none, .ext (.t 118) 1, none⟩,
              ⟨(some 21), none, .mv false (.t 119), none⟩] (some [0, 5, 6, 8, 12, 17, 21, 40, 41, 42, 115])) (
            .seq (.reg false [
              ⟨(some 120), none, .mv false (.t 21), none⟩] (some [0, 5, 6, 8, 12, 17, 40, 41, 42, 115, 120])) (
            .ite (.t 120) (
              .reg false [
                ⟨(some 121), none, .mv false (.t 17), none⟩,
                ⟨(some 122), none, .bin .sub .i64 (.t 121) (.c (.int .i64 1)), none⟩,
                ⟨(some 17), none, .mv false (.t 122), none⟩] (some [0, 5, 6, 8, 12, 17, 40, 41, 42, 115])) (
              .skip)))))))))) (
      .seq (.reg false [
        ⟨(some 123), none, .mv false (.t 12), none⟩,
        ⟨(some 9), none, .mv false (.t 123), none⟩] (some [0, 5, 6, 8, 9, 17, 40, 41, 42])) (
      .seq (.reg false [
        ⟨(some 124), none, .mv false (.t 17), none⟩,
        ⟨(some 125), none, .bin .neq .i64 (.t 124) (.c (.int .i64 0)), none⟩] (some [0, 5, 6, 8, 9, 40, 41, 42, 125])) (
      .ite (.t 125) (
        .seq (.reg false [
          ⟨(some 4), none, .mv false (.c (.bool false)), none⟩] (some [4])) (
        .ret)) (
        .skip)))))))))))) (
    .reg false [
      ⟨(some 126), none, .bin .add .i64 (.t 42) (.c (.int .i64 1)), none⟩,
      ⟨(some 42), none, .mv false (.t 126), none⟩] (some [0, 5, 6, 8, 9, 40, 41, 42])))))))) (
.seq (.reg false [
  ⟨(some 127), none, .call false 9 [], none⟩,
  ⟨(some 4), none, .mv false (.t 127), none⟩] (some [4])) (
.ret))))))))
set_option maxRecDepth 1000000 in
theorem comp_law36_CrossEnds : (Try.f4.body.bind fun code => compC Try.prog Try.f4.ntmps code c_law36_CrossEnds) = some c_law36_CrossEnds.bare := by kernel_rfl
def r_law36_CrossEnds : List R := [.t 4]
theorem spo_law36_CrossEnds {ds : List D} {d : D} (hn : Nat.ble ds.length 128 = true) (h : run TSpC gtab 0 c_law36_CrossEnds (retK r_law36_CrossEnds (· = d)) ⟨env0 0 ds, []⟩) : TSp 4 ds d := Sp_of mixed c_law36_CrossEnds r_law36_CrossEnds (fn := Try.f4) (by kernel_rfl) (by kernel_rfl) comp_law36_CrossEnds (by kernel_rfl) hn h
theorem spm_law36_CrossEnds {ds : List D} {d : D} {bx bx' : List Ent} (hn : Nat.ble ds.length 128 = true) (h : run TSpC gtab (sizeE bx) c_law36_CrossEnds (retG r_law36_CrossEnds (fun d1 bx1 => Rt (sizeE bx) bx1 d1 d bx')) ⟨env0 0 ds, bx⟩) : TSpM 4 ds bx d bx' := SpM_of mixed c_law36_CrossEnds r_law36_CrossEnds (fn := Try.f4) (by kernel_rfl) (by kernel_rfl) comp_law36_CrossEnds (by kernel_rfl) hn h
/-- glazier/glazierlaw36.CrossKinds -/
def c_law36_CrossKinds : C := .seq (.reg false [
  ⟨(some 6), none, .mv false (.c (.bool false)), none⟩] (some [0, 1, 2])) (
.seq (.seq (.reg false [
  ⟨(some 17), none, .mv false (.t 0), none⟩,
  ⟨(some 18), none, .len false (.t 17), none⟩,
  ⟨(some 19), none, .bin .gtr .i64 (.t 18) (.c (.int .i64 20)), none⟩] (some [0, 1, 2, 19])) (
.ite (.t 19) (
  .seq (.reg false [
    ⟨(some 20), none, .call false 9 [], none⟩,
    ⟨(some 6), none, .mv false (.t 20), none⟩] (some [6])) (
  .ret)) (
  .skip))) (
.seq (.reg false [
  ⟨(some 22), none, .mv false (.t 0), none⟩,
  ⟨(some 23), none, .call false 10 [(.t 22)], none⟩,
  ⟨(some 21), none, .mv false (.t 23), none⟩,
  ⟨(some 24), none, .ext (.t 21) 0, none⟩,
  ⟨(some 25), none, .ext (.t 21) 1, none⟩,
  ⟨(some 26), none, .ext (.t 21) 2, none⟩,
  ⟨(some 7), none, .alloc [(.mp [] []), (.mp [] [])], none⟩,
  ⟨none, none, .st (some 2) (.t 7) (.t 24), none⟩,
  ⟨(some 8), none, .mv false (.t 25), none⟩,
  ⟨(some 9), none, .mv false (.t 26), none⟩] (some [0, 1, 2, 7, 9])) (
.seq (.reg true [
  ⟨(some 27), none, .mv false (.t 1), none⟩,
  ⟨(some 28), none, .conv .i64 (.t 27), none⟩,
  ⟨(some 29), none, .mv false (.t 0), none⟩,
  ⟨(some 30), none, .len false (.t 29), none⟩,
  ⟨(some 31), none, .bin .add .i64 (.t 30) (.c (.int .i64 1)), none⟩,
  ⟨(some 32), none, .bin .rem .i64 (.t 28) (.t 31), none⟩,
  ⟨(some 33), none, .call false 14 [(.t 32)], none⟩,
  ⟨(some 34), none, .mv false (.t 2), none⟩,
  ⟨(some 35), none, .conv .i64 (.t 34), none⟩,
  ⟨(some 36), none, .mv false (.t 0), none⟩,
  ⟨(some 37), none, .len false (.t 36), none⟩,
  ⟨(some 38), none, .bin .add .i64 (.t 37) (.c (.int .i64 1)), none⟩,
  ⟨(some 39), none, .bin .rem .i64 (.t 35) (.t 38), none⟩,
  ⟨(some 40), none, .call false 14 [(.t 39)], none⟩,
  ⟨(some 10), none, .mv false (.t 33), none⟩,
  ⟨(some 11), none, .mv false (.t 40), none⟩] (some [7, 9, 10, 11])) (
.seq (.reg false [
  ⟨(some 41), none, .ld (some 2) (.t 7), none⟩,
  ⟨(some 42), none, .mv false (.t 10), none⟩,
  ⟨(some 43), none, .mv false (.t 11), none⟩,
  ⟨(some 44), none, .call false 12 [(.t 41), (.t 42), (.t 43)], none⟩,
  ⟨(some 12), none, .mv false (.t 44), none⟩] (some [9, 10, 11, 12])) (
.seq (.seq (.reg false [
  ⟨(some 45), none, .mv false (.t 9), none⟩,
  ⟨(some 46), none, .not (.t 45), none⟩,
  ⟨(some 47), none, .mv false (.t 46), none⟩,
  ⟨(some 48), some (47, false), .mv false (.t 10), none⟩,
  ⟨(some 49), some (47, false), .mv false (.t 11), none⟩,
  ⟨(some 50), some (47, false), .bin .eql .u32 (.t 48) (.t 49), none⟩,
  ⟨(some 51), none, .pick (.t 47) (.c (.bool true)) (.t 50), none⟩] (some [9, 10, 11, 12, 51])) (
.ite (.t 51) (
  .seq (.reg false [
    ⟨(some 52), none, .mv false (.t 9), none⟩,
    ⟨(some 53), none, .mv false (.t 52), none⟩,
    ⟨(some 54), some (53, true), .mv false (.t 12), none⟩,
    ⟨(some 55), some (53, true), .len false (.t 54), none⟩,
    ⟨(some 56), some (53, true), .bin .eql .i64 (.t 55) (.c (.int .i64 0)), none⟩,
    ⟨(some 57), none, .pick (.t 53) (.t 56) (.c (.bool false)), none⟩,
    ⟨(some 58), none, .mv false (.t 57), none⟩,
    ⟨(some 59), some (58, true), .call false 9 [], none⟩,
    ⟨(some 60), none, .pick (.t 58) (.t 59) (.c (.bool false)), none⟩,
    ⟨(some 6), none, .mv false (.t 60), none⟩] (some [6])) (
  .ret)) (
  .skip))) (
.seq (.seq (.reg false [
  ⟨(some 61), none, .mv false (.t 12), none⟩,
  ⟨(some 62), none, .len false (.t 61), none⟩,
  ⟨(some 63), none, .bin .lss .i64 (.t 62) (.c (.int .i64 2)), none⟩,
  ⟨(some 64), none, .mv false (.t 63), none⟩,
  ⟨(some 65), some (64, false), .mv false (.t 12), none⟩,
  ⟨(some 66), some (64, false), .ixs 3 (.t 65) (.c (.int .i64 0)), none⟩,
  ⟨(some 67), some (64, false), .fld 0 (.t 66), none⟩,
  ⟨(some 68), some (64, false), .ld none (.t 67), none⟩,
  ⟨(some 69), some (64, false), .mv false (.t 10), none⟩,
  ⟨(some 70), some (64, false), .bin .neq .u32 (.t 68) (.t 69), none⟩,
  ⟨(some 71), none, .pick (.t 64) (.c (.bool true)) (.t 70), none⟩,
  ⟨(some 72), none, .mv false (.t 71), none⟩,
  ⟨(some 73), some (72, false), .mv false (.t 12), none⟩,
  ⟨(some 74), some (72, false), .ixs 3 (.t 73) (.c (.int .i64 0)), none⟩,
  ⟨(some 75), some (72, false), .fld 1 (.t 74), none⟩,
  ⟨(some 76), some (72, false), .ld none (.t 75), none⟩,
  ⟨(some 77), none, .pick (.t 72) (.c (.bool true)) (.t 76), none⟩,
  ⟨(some 78), none, .mv false (.t 77), none⟩,
  ⟨(some 79), some (78, false), .mv false (.t 12), none⟩,
  ⟨(some 80), some (78, false), .mv false (.t 12), none⟩,
  ⟨(some 81), some (78, false), .len false (.t 80), none⟩,
  ⟨(some 82), some (78, false), .bin .sub .i64 (.t 81) (.c (.int .i64 1)), none⟩,
  ⟨(some 83), some (78, false), .ixs 3 (.t 79) (.t 82), none⟩,
  ⟨(some 84), some (78, false), .fld 0 (.t 83), none⟩,
  ⟨(some 85), some (78, false), .ld none (.t 84), none⟩,
  ⟨(some 86), some (78, false), .mv false (.t 11), none⟩,
  ⟨(some 87), some (78, false), .bin .neq .u32 (.t 85) (.t 86), none⟩,
  ⟨(some 88), none, .pick (.t 78) (.c (.bool true)) (.t 87), none⟩,
  ⟨(some 89), none, .mv false (.t 88), none⟩,
  ⟨(some 90), some (89, false), .mv false (.t 12), none⟩,
  ⟨(some 91), some (89, false), .mv false (.t 12), none⟩,
  ⟨(some 92), some (89, false), .len false (.t 91), none⟩,
  ⟨(some 93), some (89, false), .bin .sub .i64 (.t 92) (.c (.int .i64 1)), none⟩,
  ⟨(some 94), some (89, false), .ixs 3 (.t 90) (.t 93), none⟩,
  ⟨(some 95), some (89, false), .fld 1 (.t 94), none⟩,
  ⟨(some 96), some (89, false), .ld none (.t 95), none⟩,
  ⟨(some 97), some (89, false), .not (.t 96), none⟩,
  ⟨(some 98), none, .pick (.t 89) (.c (.bool true)) (.t 97), none⟩] (some [12, 98])) (
.ite (.t 98) (
  .seq (.reg false [
    ⟨(some 6), none, .mv false (.c (.bool false)), none⟩] (some [6])) (
  .ret)) (
  .skip))) (
.seq (.reg false [
  ⟨(some 99), none, .mv false (.t 12), none⟩,
  ⟨(some 100), none, .ixs 3 (.t 99) (.c (.int .i64 0)), none⟩,
  ⟨(some 101), none, .fld 2 (.t 100), none⟩,
  ⟨(some 102), none, .ld none (.t 101), none⟩,
  ⟨(some 103), none, .bin .neq .i64 (.t 102) (.c (.int .i64 3)), none⟩,
  ⟨(some 13), none, .mv false (.t 103), none⟩] (some [12, 13])) (
.seq (.seq (.reg false [
  ⟨(some 104), none, .mv false (.t 12), none⟩,
  ⟨(some 105), none, .mv false (.t 12), none⟩,
  ⟨(some 106), none, .len false (.t 105), none⟩,
  ⟨(some 107), none, .bin .sub .i64 (.t 106) (.c (.int .i64 1)), none⟩,
  ⟨(some 108), none, .sls false 3 (.t 104) (some (.c (.int .i64 1))) (some (.t 107)), none⟩,
  ⟨(some 109), none, .len false (.t 108), none⟩,
  ⟨(some 110), none, .mv false (.c (.int .i64 0)), none⟩] (some [12, 13, 108, 109, 110])) (
.blk 0 (
  .loop (
    .seq (.reg false [
      ⟨(some 111), none, .bin .lss .i64 (.t 110) (.t 109), none⟩] (some [12, 13, 108, 109, 110, 111])) (
    .seq (.ite (.t 111) (
      .skip) (
      .exit 0)) (
    .seq (.blk 1 (
      .seq (.reg false [
        ⟨(some 112), none, .ixs 3 (.t 108) (.t 110), none⟩,
        ⟨(some 113), none, .ld (some 3) (.t 112), none⟩,
        ⟨(some 15), none, .alloc [(.int .u32 0), (.bool false), (.int .i64 0)], none⟩,
        ⟨none, none, .st (some 3) (.t 15) (.t 113), none⟩] (some [12, 13, 15, 108, 109, 110])) (
      .seq (.reg false [
        ⟨(some 114), none, .fld 2 (.t 15), none⟩,
        ⟨(some 115), none, .ld none (.t 114), none⟩,
        ⟨(some 116), none, .bin .eql .i64 (.t 115) (.c (.int .i64 1)), none⟩,
        ⟨(some 117), none, .mv false (.t 13), none⟩,
        ⟨(some 118), none, .eqb true false (.t 116) (.t 117), none⟩,
        ⟨(some 119), none, .mv false (.t 118), none⟩,
        ⟨(some 120), some (119, false), .fld 2 (.t 15), none⟩,
        ⟨(some 121), some (119, false), .ld none (.t 120), none⟩,
        ⟨(some 122), some (119, false), .bin .eql .i64 (.t 121) (.c (.int .i64 4)), none⟩,
        ⟨(some 123), some (119, false), .mv false (.t 13), none⟩,
        ⟨(some 124), some (119, false), .eqb false false (.t 122) (.t 123), none⟩,
        ⟨(some 125), none, .pick (.t 119) (.c (.bool true)) (.t 124), none⟩] (some [12, 13, 108, 109, 110, 125])) (
      .ite (.t 125) (
        .seq (.reg false [
          ⟨(some 6), none, .mv false (.c (.bool false)), none⟩] (some [6])) (
        .ret)) (
        .skip))))) (
    .reg false [
      ⟨(some 126), none, .bin .add .i64 (.t 110) (.c (.int .i64 1)), none⟩,
      ⟨(some 110), none, .mv false (.t 126), none⟩] (some [12, 13, 108, 109, 110])))))))) (
.seq (.reg false [
  ⟨(some 127), none, .mv false (.t 12), none⟩,
  ⟨(some 128), none, .mv false (.t 12), none⟩,
  ⟨(some 129), none, .len false (.t 128), none⟩,
  ⟨(some 130), none, .bin .sub .i64 (.t 129) (.c (.int .i64 1)), none⟩,
  ⟨(some 131), none, .ixs 3 (.t 127) (.t 130), none⟩,
  ⟨(some 132), none, .fld 2 (.t 131), none⟩,
  ⟨(some 133), none, .ld none (.t 132), none⟩,
  ⟨(some 16), none, .mv false (.t 133), none⟩] (some [12, 13, 16])) (
.seq (.reg false [
  ⟨(some 134), none, .mv false (.t 13), none⟩,
  ⟨(some 135), none, .mv false (.t 16), none⟩,
  ⟨(some 136), none, .bin .neq .i64 (.t 135) (.c (.int .i64 3)), none⟩,
  ⟨(some 137), none, .eqb false false (.t 134) (.t 136), none⟩,
  ⟨(some 138), none, .mv false (.t 137), none⟩,
  ⟨(some 139), some (138, true), .mv false (.t 13), none⟩,
  ⟨(some 140), some (138, true), .not (.t 139), none⟩,
  ⟨(some 141), some (138, true), .mv false (.t 140), none⟩,
  ⟨(some 142), some (141, false), .mv false (.t 12), none⟩,
  ⟨(some 143), some (141, false), .ixs 3 (.t 142) (.c (.int .i64 0)), none⟩,
  ⟨(some 144), some (141, false), .fld 2 (.t 143), none⟩,
  ⟨(some 145), some (141, false), .ld none (.t 144), none⟩,
  ⟨(some 146), some (141, false), .mv false (.t 16), none⟩,
  ⟨(some 147), some (141, false), .bin .add .i64 (.t 145) (.t 146), none⟩,
  ⟨(some 148), some (141, false), .bin .eql .i64 (.t 147) (.c (.int .i64 2)), none⟩,
  ⟨(some 149), some (138, true), .pick (.t 141) (.c (.bool true)) (.t 148), none⟩,
  ⟨(some 150), none, .pick (.t 138) (.t 149) (.c (.bool false)), none⟩,
  ⟨(some 151), none, .mv false (.t 150), none⟩,
  ⟨(some 152), some (151, true), .call false 9 [], none⟩,
  ⟨(some 153), none, .pick (.t 151) (.t 152) (.c (.bool false)), none⟩,
  ⟨(some 6), none, .mv false (.t 153), none⟩] (some [6])) (
.ret)))))))))))
set_option maxRecDepth 1000000 in
theorem comp_law36_CrossKinds : (Try.f5.body.bind fun code => compC Try.prog Try.f5.ntmps code c_law36_CrossKinds) = some c_law36_CrossKinds.bare := by kernel_rfl
def r_law36_CrossKinds : List R := [.t 6]
theorem spo_law36_CrossKinds {ds : List D} {d : D} (hn : Nat.ble ds.length 154 = true) (h : run TSpC gtab 0 c_law36_CrossKinds (retK r_law36_CrossKinds (· = d)) ⟨env0 0 ds, []⟩) : TSp 5 ds d := Sp_of mixed c_law36_CrossKinds r_law36_CrossKinds (fn := Try.f5) (by kernel_rfl) (by kernel_rfl) comp_law36_CrossKinds (by kernel_rfl) hn h
theorem spm_law36_CrossKinds {ds : List D} {d : D} {bx bx' : List Ent} (hn : Nat.ble ds.length 154 = true) (h : run TSpC gtab (sizeE bx) c_law36_CrossKinds (retG r_law36_CrossKinds (fun d1 bx1 => Rt (sizeE bx) bx1 d1 d bx')) ⟨env0 0 ds, bx⟩) : TSpM 5 ds bx d bx' := SpM_of mixed c_law36_CrossKinds r_law36_CrossKinds (fn := Try.f5) (by kernel_rfl) (by kernel_rfl) comp_law36_CrossKinds (by kernel_rfl) hn h
/-- glazier/glazierlaw36.CrossStops -/
def c_law36_CrossStops : C := .seq (.reg false [
  ⟨(some 4), none, .mv false (.c (.bool false)), none⟩] (some [0, 1])) (
.seq (.seq (.reg false [
  ⟨(some 14), none, .mv false (.t 0), none⟩,
  ⟨(some 15), none, .len false (.t 14), none⟩,
  ⟨(some 16), none, .bin .gtr .i64 (.t 15) (.c (.int .i64 20)), none⟩] (some [0, 1, 16])) (
.ite (.t 16) (
  .seq (.reg false [
    ⟨(some 17), none, .call false 9 [], none⟩,
    ⟨(some 4), none, .mv false (.t 17), none⟩] (some [4])) (
  .ret)) (
  .skip))) (
.seq (.reg false [
  ⟨(some 19), none, .mv false (.t 0), none⟩,
  ⟨(some 20), none, .call false 10 [(.t 19)], none⟩,
  ⟨(some 18), none, .mv false (.t 20), none⟩,
  ⟨(some 21), none, .ext (.t 18) 0, none⟩,
  ⟨(some 22), none, .ext (.t 18) 1, none⟩,
  ⟨(some 23), none, .ext (.t 18) 2, none⟩,
  ⟨(some 5), none, .alloc [(.mp [] []), (.mp [] [])], none⟩,
  ⟨none, none, .st (some 2) (.t 5) (.t 21), none⟩,
  ⟨(some 6), none, .mv false (.t 22), none⟩,
  ⟨(some 7), none, .mv false (.t 23), none⟩] (some [0, 1, 5, 6, 7])) (
.seq (.reg false [
  ⟨(some 24), none, .mv false (.t 1), none⟩,
  ⟨(some 25), none, .conv .i64 (.t 24), none⟩,
  ⟨(some 26), none, .mv false (.t 0), none⟩,
  ⟨(some 27), none, .len false (.t 26), none⟩,
  ⟨(some 28), none, .bin .add .i64 (.t 27) (.c (.int .i64 1)), none⟩,
  ⟨(some 29), none, .bin .rem .i64 (.t 25) (.t 28), none⟩,
  ⟨(some 30), none, .call false 14 [(.t 29)], none⟩,
  ⟨(some 8), none, .mv false (.t 30), none⟩] (some [5, 6, 7, 8])) (
.seq (.reg true [
  ⟨(some 31), none, .ld (some 2) (.t 5), none⟩,
  ⟨(some 32), none, .mv false (.t 8), none⟩,
  ⟨(some 33), none, .call false 12 [(.t 31), (.c (.int .u32 0)), (.t 32)], none⟩,
  ⟨(some 34), none, .ld (some 2) (.t 5), none⟩,
  ⟨(some 35), none, .mv false (.t 8), none⟩,
  ⟨(some 36), none, .call false 12 [(.t 34), (.t 35), (.c (.int .u32 0))], none⟩,
  ⟨(some 9), none, .mv false (.t 33), none⟩,
  ⟨(some 10), none, .mv false (.t 36), none⟩] (some [6, 7, 8, 9, 10])) (
.seq (.reg false [
  ⟨(some 37), none, .mv false (.t 6), none⟩,
  ⟨(some 38), none, .mv false (.t 8), none⟩,
  ⟨(some 39), none, .call false 15 [(.t 37), (.t 38)], none⟩,
  ⟨(some 11), none, .mv false (.t 39), none⟩] (some [7, 9, 10, 11])) (
.seq (.seq (.reg false [
  ⟨(some 40), none, .mv false (.t 7), none⟩,
  ⟨(some 41), none, .not (.t 40), none⟩,
  ⟨(some 42), none, .mv false (.t 41), none⟩,
  ⟨(some 43), some (42, false), .mv false (.t 9), none⟩,
  ⟨(some 44), some (42, false), .len false (.t 43), none⟩,
  ⟨(some 45), some (42, false), .mv false (.t 11), none⟩,
  ⟨(some 46), some (42, false), .len false (.t 45), none⟩,
  ⟨(some 47), some (42, false), .bin .neq .i64 (.t 44) (.t 46), none⟩,
  ⟨(some 48), none, .pick (.t 42) (.c (.bool true)) (.t 47), none⟩,
  ⟨(some 49), none, .mv false (.t 48), none⟩,
  ⟨(some 50), some (49, false), .mv false (.t 10), none⟩,
  ⟨(some 51), some (49, false), .len false (.t 50), none⟩,
  ⟨(some 52), some (49, false), .mv false (.t 11), none⟩,
  ⟨(some 53), some (49, false), .len false (.t 52), none⟩,
  ⟨(some 54), some (49, false), .bin .neq .i64 (.t 51) (.t 53), none⟩,
  ⟨(some 55), none, .pick (.t 49) (.c (.bool true)) (.t 54), none⟩] (some [9, 10, 11, 55])) (
.ite (.t 55) (
  .seq (.reg false [
    ⟨(some 4), none, .mv false (.c (.bool false)), none⟩] (some [4])) (
  .ret)) (
  .skip))) (
.seq (.seq (.reg false [
  ⟨(some 56), none, .mv false (.t 11), none⟩,
  ⟨(some 57), none, .len false (.t 56), none⟩,
  ⟨(some 58), none, .mv false (.c (.int .i64 0)), none⟩] (some [9, 10, 11, 56, 57, 58])) (
.blk 0 (
  .loop (
    .seq (.reg false [
      ⟨(some 59), none, .bin .lss .i64 (.t 58) (.t 57), none⟩] (some [9, 10, 11, 56, 57, 58, 59])) (
    .seq (.ite (.t 59) (
      .skip) (
      .exit 0)) (
    .seq (.blk 1 (
      .seq (.reg false [
        ⟨(some 60), none, .mv false (.t 58), none⟩,
        ⟨(some 61), none, .ixs 1 (.t 56) (.t 58), none⟩,
        ⟨(some 62), none, .ld none (.t 61), none⟩,
        ⟨(some 12), none, .mv false (.t 60), none⟩,
        ⟨(some 13), none, .mv false (.t 62), none⟩] (some [9, 10, 11, 12, 13, 56, 57, 58])) (
      .seq (.reg false [
        ⟨(some 63), none, .mv false (.t 10), none⟩,
        ⟨(some 64), none, .mv false (.t 12), none⟩,
        ⟨(some 65), none, .ixs 3 (.t 63) (.t 64), none⟩,
        ⟨(some 66), none, .fld 0 (.t 65), none⟩,
        ⟨(some 67), none, .ld none (.t 66), none⟩,
        ⟨(some 68), none, .mv false (.t 13), none⟩,
        ⟨(some 69), none, .bin .neq .u32 (.t 67) (.t 68), none⟩,
        ⟨(some 70), none, .mv false (.t 69), none⟩,
        ⟨(some 71), some (70, false), .mv false (.t 10), none⟩,
        ⟨(some 72), some (70, false), .mv false (.t 12), none⟩,
        ⟨(some 73), some (70, false), .ixs 3 (.t 71) (.t 72), none⟩,
        ⟨(some 74), some (70, false), .fld 1 (.t 73), none⟩,
        ⟨(some 75), some (70, false), .ld none (.t 74), none⟩,
        ⟨(some 76), none, .pick (.t 70) (.c (.bool true)) (.t 75), none⟩,
        ⟨(some 77), none, .mv false (.t 76), none⟩,
        ⟨(some 78), some (77, false), .mv false (.t 9), none⟩,
        ⟨(some 79), some (77, false), .mv false (.t 11), none⟩,
        ⟨(some 80), some (77, false), .len false (.t 79), none⟩,
        ⟨(some 81), some (77, false), .bin .sub .i64 (.t 80) (.c (.int .i64 1)), none⟩,
        ⟨(some 82), some (77, false), .mv false (.t 12), none⟩,
        ⟨(some 83), some (77, false), .bin .sub .i64 (.t 81) (.t 82), none⟩,
        ⟨(some 84), some (77, false), .ixs 3 (.t 78) (.t 83), none⟩,
        ⟨(some 85), some (77, false), .fld 0 (.t 84), none⟩,
        ⟨(some 86), some (77, false), .ld none (.t 85), none⟩,
        ⟨(some 87), some (77, false), .mv false (.t 13), none⟩,
        ⟨(some 88), some (77, false), .bin .neq .u32 (.t 86) (.t 87), none⟩,
        ⟨(some 89), none, .pick (.t 77) (.c (.bool true)) (.t 88), none⟩,
        ⟨(some 90), none, .mv false (.t 89), none⟩,
        ⟨(some 91), some (90, false), .mv false (.t 9), none⟩,
        ⟨(some 92), some (90, false), .mv false (.t 11), none⟩,
        ⟨(some 93), some (90, false), .len false (.t 92), none⟩,
        ⟨(some 94), some (90, false), .bin .sub .i64 (.t 93) (.c (.int .i64 1)), none⟩,
        ⟨(some 95), some (90, false), .mv false (.t 12), none⟩,
        ⟨(some 96), some (90, false), .bin .sub .i64 (.t 94) (.t 95), none⟩,
        ⟨(some 97), some (90, false), .ixs 3 (.t 91) (.t 96), none⟩,
        ⟨(some 98), some (90, false), .fld 1 (.t 97), none⟩,
        ⟨(some 99), some (90, false), .ld none (.t 98), none⟩,
        ⟨(some 100), some (90, false), .not (.t 99), none⟩,
        ⟨(some 101), none, .pick (.t 90) (.c (.bool true)) (.t 100), none⟩] (some [9, 10, 11, 56, 57, 58, 101])) (
      .ite (.t 101) (
        .seq (.reg false [
          ⟨(some 4), none, .mv false (.c (.bool false)), none⟩] (some [4])) (
        .ret)) (
        .skip))))) (
    .reg false [
      ⟨(some 102), none, .bin .add .i64 (.t 58) (.c (.int .i64 1)), none⟩,
      ⟨(some 58), none, .mv false (.t 102), none⟩] (some [9, 10, 11, 56, 57, 58])))))))) (
.seq (.reg false [
  ⟨(some 103), none, .call false 9 [], none⟩,
  ⟨(some 4), none, .mv false (.t 103), none⟩] (some [4])) (
.ret)))))))))
set_option maxRecDepth 1000000 in
theorem comp_law36_CrossStops : (Try.f6.body.bind fun code => compC Try.prog Try.f6.ntmps code c_law36_CrossStops) = some c_law36_CrossStops.bare := by kernel_rfl
def r_law36_CrossStops : List R := [.t 4]
theorem spo_law36_CrossStops {ds : List D} {d : D} (hn : Nat.ble ds.length 104 = true) (h : run TSpC gtab 0 c_law36_CrossStops (retK r_law36_CrossStops (· = d)) ⟨env0 0 ds, []⟩) : TSp 6 ds d := Sp_of mixed c_law36_CrossStops r_law36_CrossStops (fn := Try.f6) (by kernel_rfl) (by kernel_rfl) comp_law36_CrossStops (by kernel_rfl) hn h
theorem spm_law36_CrossStops {ds : List D} {d : D} {bx bx' : List Ent} (hn : Nat.ble ds.length 104 = true) (h : run TSpC gtab (sizeE bx) c_law36_CrossStops (retG r_law36_CrossStops (fun d1 bx1 => Rt (sizeE bx) bx1 d1 d bx')) ⟨env0 0 ds, bx⟩) : TSpM 6 ds bx d bx' := SpM_of mixed c_law36_CrossStops r_law36_CrossStops (fn := Try.f6) (by kernel_rfl) (by kernel_rfl) comp_law36_CrossStops (by kernel_rfl) hn h
/-- glazier/glazierlaw36.CrossReturns -/
def c_law36_CrossReturns : C := .seq (.reg false [
  ⟨(some 6), none, .mv false (.c (.bool false)), none⟩] (some [0, 1, 2])) (
.seq (.seq (.reg false [
  ⟨(some 15), none, .mv false (.t 0), none⟩,
  ⟨(some 16), none, .len false (.t 15), none⟩,
  ⟨(some 17), none, .bin .gtr .i64 (.t 16) (.c (.int .i64 20)), none⟩] (some [0, 1, 2, 17])) (
.ite (.t 17) (
  .seq (.reg false [
    ⟨(some 18), none, .call false 9 [], none⟩,
    ⟨(some 6), none, .mv false (.t 18), none⟩] (some [6])) (
  .ret)) (
  .skip))) (
.seq (.reg false [
  ⟨(some 20), none, .mv false (.t 0), none⟩,
  ⟨(some 21), none, .call false 10 [(.t 20)], none⟩,
  ⟨(some 19), none, .mv false (.t 21), none⟩,
  ⟨(some 22), none, .ext (.t 19) 0, none⟩,
  ⟨(some 23), none, .ext (.t 19) 1, none⟩,
  ⟨(some 24), none, .ext (.t 19) 2, none⟩,
  ⟨(some 7), none, .alloc [(.mp [] []), (.mp [] [])], none⟩,
  ⟨none, none, .st (some 2) (.t 7) (.t 22), none⟩,
  ⟨(some 8), none, .mv false (.t 23), none⟩,
  ⟨(some 9), none, .mv false (.t 24), none⟩] (some [1, 2, 7, 9])) (
.seq (.seq (.reg false [
  ⟨(some 25), none, .mv false (.t 9), none⟩,
  ⟨(some 26), none, .not (.t 25), none⟩] (some [1, 2, 7, 26])) (
.ite (.t 26) (
  .seq (.reg false [
    ⟨(some 6), none, .mv false (.c (.bool false)), none⟩] (some [6])) (
  .ret)) (
  .skip))) (
.seq (.reg true [
  ⟨(some 27), none, .ld (some 2) (.t 7), none⟩,
  ⟨(some 28), none, .mv false (.t 1), none⟩,
  ⟨(some 29), none, .mv false (.t 2), none⟩,
  ⟨(some 30), none, .call false 12 [(.t 27), (.t 28), (.t 29)], none⟩,
  ⟨(some 31), none, .ld (some 2) (.t 7), none⟩,
  ⟨(some 32), none, .mv false (.t 2), none⟩,
  ⟨(some 33), none, .mv false (.t 1), none⟩,
  ⟨(some 34), none, .call false 12 [(.t 31), (.t 32), (.t 33)], none⟩,
  ⟨(some 35), none, .call false 16 [(.t 34)], none⟩,
  ⟨(some 10), none, .mv false (.t 30), none⟩,
  ⟨(some 11), none, .mv false (.t 35), none⟩] (some [10, 11])) (
.seq (.seq (.reg false [
  ⟨(some 36), none, .mv false (.t 10), none⟩,
  ⟨(some 37), none, .len false (.t 36), none⟩,
  ⟨(some 38), none, .mv false (.t 11), none⟩,
  ⟨(some 39), none, .len false (.t 38), none⟩,
  ⟨(some 40), none, .bin .neq .i64 (.t 37) (.t 39), none⟩] (some [10, 11, 40])) (
.ite (.t 40) (
  .seq (.reg false [
    ⟨(some 6), none, .mv false (.c (.bool false)), none⟩] (some [6])) (
  .ret)) (
  .skip))) (
.seq (.reg false [
  ⟨(some 41), none, .prm false true (.mkm 39) [], none⟩,
  ⟨(some 12), none, .mv false (.t 41), none⟩] (some [10, 11, 12])) (
.seq (.seq (.reg false [
  ⟨(some 42), none, .mv false (.t 10), none⟩,
  ⟨(some 43), none, .len false (.t 42), none⟩,
  ⟨(some 44), none, .mv false (.c (.int .i64 0)), none⟩] (some [11, 12, 42, 43, 44])) (
.blk 0 (
  .loop (
    .seq (.reg false [
      ⟨(some 45), none, .bin .lss .i64 (.t 44) (.t 43), none⟩] (some [11, 12, 42, 43, 44, 45])) (
    .seq (.ite (.t 45) (
      .skip) (
      .exit 0)) (
    .seq (.blk 1 (
      .seq (.reg false [
        ⟨(some 46), none, .mv false (.t 44), none⟩,
        ⟨(some 47), none, .ixs 3 (.t 42) (.t 44), none⟩,
        ⟨(some 48), none, .ld (some 3) (.t 47), none⟩,
        ⟨(some 14), none, .alloc [(.int .u32 0), (.bool false), (.int .i64 0)], none⟩,
        ⟨(some 13), none, .mv false (.t 46), none⟩,
        ⟨none, none, .st (some 3) (.t 14) (.t 48), none⟩] (some [11, 12, 13, 14, 42, 43, 44])) (
      .seq (.seq (.reg true [
        ⟨(some 49), none, .ld (some 3) (.t 14), none⟩,
        ⟨(some 50), none, .mv false (.t 11), none⟩,
        ⟨(some 51), none, .mv false (.t 13), none⟩,
        ⟨(some 52), none, .ixs 3 (.t 50) (.t 51), none⟩,
        ⟨(some 53), none, .ld (some 3) (.t 52), none⟩,
        ⟨(some 54), none, .eqS true [.i .u32, .b, .i .i64] (.t 49) (.t 53), none⟩,
        ⟨(some 55), none, .mv false (.t 54), none⟩,
        ⟨(some 56), some (55, false), .mv false (.t 12), none⟩,
        ⟨(some 57), some (55, false), .fld 0 (.t 14), none⟩,
        ⟨(some 58), some (55, false), .ld none (.t 57), none⟩,
        ⟨(some 59), some (55, false), .prm false false (.lkp 39 false) [(.t 56), (.t 58)], none⟩,
        ⟨(some 60), none, .pick (.t 55) (.c (.bool true)) (.t 59), none⟩] (some [11, 12, 14, 42, 43, 44, 60])) (
      .ite (.t 60) (
        .seq (.reg false [
          ⟨(some 6), none, .mv false (.c (.bool false)), none⟩] (some [6])) (
        .ret)) (
        .skip))) (
      .reg false [
        ⟨(some 61), none, .mv false (.t 12), none⟩,
        ⟨(some 62), none, .fld 0 (.t 14), none⟩,
        ⟨(some 63), none, .ld none (.t 62), none⟩,
        ⟨none, none, .prm false true (.upd 39) [(.t 61), (.t 63), (.c (.bool true))], none⟩] (some [11, 12, 42, 43, 44]))))) (
    .reg false [
      ⟨(some 64), none, .bin .add .i64 (.t 44) (.c (.int .i64 1)), none⟩,
      ⟨(some 44), none, .mv false (.t 64), none⟩] (some [11, 12, 42, 43, 44])))))))) (
.seq (.reg false [
  ⟨(some 65), none, .call false 9 [], none⟩,
  ⟨(some 6), none, .mv false (.t 65), none⟩] (some [6])) (
.ret)))))))))
set_option maxRecDepth 1000000 in
theorem comp_law36_CrossReturns : (Try.f7.body.bind fun code => compC Try.prog Try.f7.ntmps code c_law36_CrossReturns) = some c_law36_CrossReturns.bare := by kernel_rfl
def r_law36_CrossReturns : List R := [.t 6]
theorem spo_law36_CrossReturns {ds : List D} {d : D} (hn : Nat.ble ds.length 66 = true) (h : run TSpC gtab 0 c_law36_CrossReturns (retK r_law36_CrossReturns (· = d)) ⟨env0 0 ds, []⟩) : TSp 7 ds d := Sp_of mixed c_law36_CrossReturns r_law36_CrossReturns (fn := Try.f7) (by kernel_rfl) (by kernel_rfl) comp_law36_CrossReturns (by kernel_rfl) hn h
theorem spm_law36_CrossReturns {ds : List D} {d : D} {bx bx' : List Ent} (hn : Nat.ble ds.length 66 = true) (h : run TSpC gtab (sizeE bx) c_law36_CrossReturns (retG r_law36_CrossReturns (fun d1 bx1 => Rt (sizeE bx) bx1 d1 d bx')) ⟨env0 0 ds, bx⟩) : TSpM 7 ds bx d bx' := SpM_of mixed c_law36_CrossReturns r_law36_CrossReturns (fn := Try.f7) (by kernel_rfl) (by kernel_rfl) comp_law36_CrossReturns (by kernel_rfl) hn h
/-- glazier/glazierlaw36.CrossBacks -/
def c_law36_CrossBacks : C := .seq (.reg false [
  ⟨(some 4), none, .mv false (.c (.bool false)), none⟩] (some [0, 1])) (
.seq (.seq (.reg false [
  ⟨(some 10), none, .mv false (.t 0), none⟩,
  ⟨(some 11), none, .len false (.t 10), none⟩,
  ⟨(some 12), none, .bin .gtr .i64 (.t 11) (.c (.int .i64 40)), none⟩] (some [0, 1, 12])) (
.ite (.t 12) (
  .seq (.reg false [
    ⟨(some 13), none, .call false 9 [], none⟩,
    ⟨(some 4), none, .mv false (.t 13), none⟩] (some [4])) (
  .ret)) (
  .skip))) (
.seq (.reg false [
  ⟨(some 14), none, .mv false (.t 0), none⟩,
  ⟨(some 15), none, .call false 16 [(.t 14)], none⟩,
  ⟨(some 5), none, .mv false (.t 15), none⟩] (some [0, 1, 5])) (
.seq (.seq (.reg false [
  ⟨(some 16), none, .mv false (.t 5), none⟩,
  ⟨(some 17), none, .len false (.t 16), none⟩,
  ⟨(some 18), none, .mv false (.t 0), none⟩,
  ⟨(some 19), none, .len false (.t 18), none⟩,
  ⟨(some 20), none, .bin .neq .i64 (.t 17) (.t 19), none⟩] (some [0, 1, 5, 20])) (
.ite (.t 20) (
  .seq (.reg false [
    ⟨(some 4), none, .mv false (.c (.bool false)), none⟩] (some [4])) (
  .ret)) (
  .skip))) (
.seq (.seq (.reg false [
  ⟨(some 21), none, .mv false (.t 0), none⟩,
  ⟨(some 22), none, .len false (.t 21), none⟩,
  ⟨(some 23), none, .mv false (.c (.int .i64 0)), none⟩] (some [0, 1, 5, 21, 22, 23])) (
.blk 0 (
  .loop (
    .seq (.reg false [
      ⟨(some 24), none, .bin .lss .i64 (.t 23) (.t 22), none⟩] (some [0, 1, 5, 21, 22, 23, 24])) (
    .seq (.ite (.t 24) (
      .skip) (
      .exit 0)) (
    .seq (.blk 1 (
      .seq (.reg false [
        ⟨(some 25), none, .mv false (.t 23), none⟩,
        ⟨(some 26), none, .ixs 3 (.t 21) (.t 23), none⟩,
        ⟨(some 27), none, .ld (some 3) (.t 26), none⟩,
        ⟨(some 7), none, .alloc [(.int .u32 0), (.bool false), (.int .i64 0)], none⟩,
        ⟨(some 6), none, .mv false (.t 25), none⟩,
        ⟨none, none, .st (some 3) (.t 7) (.t 27), none⟩] (some [0, 1, 5, 6, 7, 21, 22, 23])) (
      .seq (.reg false [
        ⟨(some 28), none, .mv false (.t 5), none⟩,
        ⟨(some 29), none, .mv false (.t 0), none⟩,
        ⟨(some 30), none, .len false (.t 29), none⟩,
        ⟨(some 31), none, .bin .sub .i64 (.t 30) (.c (.int .i64 1)), none⟩,
        ⟨(some 32), none, .mv false (.t 6), none⟩,
        ⟨(some 33), none, .bin .sub .i64 (.t 31) (.t 32), none⟩,
        ⟨(some 34), none, .ixs 3 (.t 28) (.t 33), none⟩,
        ⟨(some 35), none, .ld (some 3) (.t 34), none⟩,
        ⟨(some 8), none, .alloc [(.int .u32 0), (.bool false), (.int .i64 0)], none⟩,
        ⟨none, none, .st (some 3) (.t 8) (.t 35), none⟩] (some [0, 1, 5, 7, 8, 21, 22, 23])) (
      .seq (.reg false [
        ⟨(some 36), none, .fld 0 (.t 8), none⟩,
        ⟨(some 37), none, .ld none (.t 36), none⟩,
        ⟨(some 38), none, .fld 0 (.t 7), none⟩,
        ⟨(some 39), none, .ld none (.t 38), none⟩,
        ⟨(some 40), none, .bin .neq .u32 (.t 37) (.t 39), none⟩,
        ⟨(some 41), none, .mv false (.t 40), none⟩,
        ⟨(some 42), some (41, false), .fld 1 (.t 8), none⟩,
        ⟨(some 43), some (41, false), .ld none (.t 42), none⟩,
        ⟨(some 44), some (41, false), .fld 1 (.t 7), none⟩,
        ⟨(some 45), some (41, false), .ld none (.t 44), none⟩,
        ⟨(some 46), some (41, false), .eqb false false (.t 43) (.t 45), none⟩,
        ⟨(some 47), none, .pick (.t 41) (.c (.bool true)) (.t 46), none⟩,
        ⟨(some 48), none, .mv false (.t 47), none⟩,
        ⟨(some 49), some (48, false), .fld 2 (.t 8), none⟩,
        ⟨(some 50), some (48, false), .ld none (.t 49), none⟩,
        ⟨(some 51), some (48, false), .fld 2 (.t 7), none⟩,
        ⟨(some 52), some (48, false), .ld none (.t 51), none⟩,
        ⟨(some 53), some (48, false), .bin .neq .i64 (.t 50) (.t 52), none⟩,
        ⟨(some 54), none, .pick (.t 48) (.c (.bool true)) (.t 53), none⟩] (some [0, 1, 5, 21, 22, 23, 54])) (
      .ite (.t 54) (
        .seq (.reg false [
          ⟨(some 4), none, .mv false (.c (.bool false)), none⟩] (some [4])) (
        .ret)) (
        .skip)))))) (
    .reg false [
      ⟨(some 55), none, .bin .add .i64 (.t 23) (.c (.int .i64 1)), none⟩,
      ⟨(some 23), none, .mv false (.t 55), none⟩] (some [0, 1, 5, 21, 22, 23])))))))) (
.seq (.reg false [
  ⟨(some 9), none, .mv false (.c (.str [])), none⟩] (some [1, 9])) (
.seq (.seq (.reg false [
  ⟨(some 56), none, .mv false (.t 1), none⟩,
  ⟨(some 57), none, .bin .geq .i64 (.t 56) (.c (.int .i64 0)), none⟩,
  ⟨(some 58), none, .mv false (.t 57), none⟩,
  ⟨(some 59), some (58, true), .mv false (.t 1), none⟩,
  ⟨(some 60), some (58, true), .bin .leq .i64 (.t 59) (.c (.int .i64 4)), none⟩,
  ⟨(some 61), none, .pick (.t 58) (.t 60) (.c (.bool false)), none⟩] (some [1, 9, 61])) (
.ite (.t 61) (
  .reg false [
    ⟨(some 62), none, .bsl none 9 1 none [(.c (.str [97, 110, 99, 101, 115, 116, 111, 114])), (.c (.str [118, 105, 114, 116, 117, 97, 108])), (.c (.str [105, 110, 102, 101, 114, 105, 111, 114])), (.c (.str [110, 111, 110, 108, 105, 110, 101, 97, 114])), (.c (.str [110, 111, 110, 108, 105, 110, 101, 97, 114, 45, 118, 105, 114, 116, 117, 97, 108]))], none⟩,
    ⟨(some 63), none, .mv false (.t 1), none⟩,
    ⟨(some 64), none, .ixs 1 (.t 62) (.t 63), none⟩,
    ⟨(some 65), none, .ld none (.t 64), none⟩,
    ⟨(some 9), none, .mv false (.t 65), none⟩] (some [1, 9])) (
  .skip))) (
.seq (.reg false [
  ⟨(some 66), none, .mv false (.t 1), none⟩,
  ⟨(some 67), none, .call false 17 [(.t 66)], none⟩,
  ⟨(some 68), none, .mv false (.t 9), none⟩,
  ⟨(some 69), none, .eqb false true (.t 67) (.t 68), none⟩,
  ⟨(some 70), none, .mv false (.t 69), none⟩,
  ⟨(some 71), some (70, true), .call false 9 [], none⟩,
  ⟨(some 72), none, .pick (.t 70) (.t 71) (.c (.bool false)), none⟩,
  ⟨(some 4), none, .mv false (.t 72), none⟩] (some [4])) (
.ret))))))))
set_option maxRecDepth 1000000 in
theorem comp_law36_CrossBacks : (Try.f8.body.bind fun code => compC Try.prog Try.f8.ntmps code c_law36_CrossBacks) = some c_law36_CrossBacks.bare := by kernel_rfl
def r_law36_CrossBacks : List R := [.t 4]
theorem spo_law36_CrossBacks {ds : List D} {d : D} (hn : Nat.ble ds.length 73 = true) (h : run TSpC gtab 0 c_law36_CrossBacks (retK r_law36_CrossBacks (· = d)) ⟨env0 0 ds, []⟩) : TSp 8 ds d := Sp_of mixed c_law36_CrossBacks r_law36_CrossBacks (fn := Try.f8) (by kernel_rfl) (by kernel_rfl) comp_law36_CrossBacks (by kernel_rfl) hn h
theorem spm_law36_CrossBacks {ds : List D} {d : D} {bx bx' : List Ent} (hn : Nat.ble ds.length 73 = true) (h : run TSpC gtab (sizeE bx) c_law36_CrossBacks (retG r_law36_CrossBacks (fun d1 bx1 => Rt (sizeE bx) bx1 d1 d bx')) ⟨env0 0 ds, bx⟩) : TSpM 8 ds bx d bx' := SpM_of mixed c_law36_CrossBacks r_law36_CrossBacks (fn := Try.f8) (by kernel_rfl) (by kernel_rfl) comp_law36_CrossBacks (by kernel_rfl) hn h
end Go.AM
