/- The functions' code, as the little machine has it (printed by Show.lean). -/
import Derived.Test.YtkcebadfgiknhaaA20
import Derived.Test.YtkcebadfgiknhaaProg
set_option linter.all false
namespace Go.AM
open Go Go.Proofs
theorem mixed : Try.prog.follows .mixedOrders = true := by kernel_rfl
def gtab : Nat → Option (List D) := fun _ => none
abbrev TSp := Sp Try.prog gtab
abbrev TSpM := SpM Try.prog gtab
/-- glazier/glazierlaw12.RectAreas -/
def c_law12_RectAreas : C := .seq (.reg false [
  ⟨(some 2), none, .box true (.t 0)⟩,
  ⟨(some 3), none, .box true (.t 1)⟩,
  ⟨(some 4), none, .mv false (.c (.bool false))⟩] (some [2, 3])) (
.seq (.seq (.reg false [
  ⟨(some 9), none, .call false 9 []⟩,
  ⟨(some 10), none, .not (.t 9)⟩] (some [2, 3, 10])) (
.ite (.t 10) (
  .seq (.reg false [
    ⟨(some 4), none, .mv false (.c (.bool false))⟩] (some [4])) (
  .ret)) (
  .skip))) (
.seq (.reg false [
  ⟨(some 11), none, .ld (some 4) (.t 2)⟩,
  ⟨(some 12), none, .ld (some 4) (.t 3)⟩,
  ⟨(some 13), none, .call false 11 [(.t 11), (.t 12)]⟩,
  ⟨(some 14), none, .call false 10 [(.t 13)]⟩,
  ⟨(some 5), none, .mv false (.t 14)⟩] (some [2, 3, 5])) (
.seq (.reg false [
  ⟨(some 15), none, .ld (some 4) (.t 2)⟩,
  ⟨(some 16), none, .ld (some 4) (.t 3)⟩,
  ⟨(some 17), none, .call false 12 [(.t 15), (.t 16)]⟩,
  ⟨(some 6), none, .mv false (.t 17)⟩] (some [2, 3, 5, 6])) (
.seq (.seq (.reg false [
  ⟨(some 7), none, .mv false (.c (.int .i64 0))⟩] (some [2, 3, 5, 6, 7])) (
.blk 0 (
  .loop (
    .seq (.seq (.reg false [
      ⟨(some 18), none, .mv false (.t 7)⟩,
      ⟨(some 19), none, .mv false (.t 6)⟩,
      ⟨(some 20), none, .len false (.t 19)⟩,
      ⟨(some 21), none, .bin .lss .i64 (.t 18) (.t 20)⟩] (some [2, 3, 5, 6, 7, 21])) (
    .ite (.t 21) (
      .skip) (
      .exit 0))) (
    .seq (.blk 1 (
      .reg false [
        ⟨(some 24), none, .mv false (.t 5)⟩,
        ⟨(some 25), none, .mv false (.t 6)⟩,
        ⟨(some 26), none, .mv false (.t 7)⟩,
        ⟨(some 27), none, .ixs 4 (.t 25) (.t 26)⟩,
        ⟨(some 28), none, .ld (some 4) (.t 27)⟩,
        ⟨(some 29), none, .call false 10 [(.t 28)]⟩,
        ⟨(some 30), none, .bin .add .i64 (.t 24) (.t 29)⟩,
        ⟨(some 5), none, .mv false (.t 30)⟩] (some [2, 3, 5, 6, 7]))) (
    .reg false [
      ⟨(some 22), none, .mv false (.t 7)⟩,
      ⟨(some 23), none, .bin .add .i64 (.t 22) (.c (.int .i64 1))⟩,
      ⟨(some 7), none, .mv false (.t 23)⟩] (some [2, 3, 5, 6, 7]))))))) (
.seq (.seq (.reg true [
  ⟨(some 31), none, .mv false (.t 5)⟩,
  ⟨(some 32), none, .ld (some 4) (.t 2)⟩,
  ⟨(some 33), none, .call false 10 [(.t 32)]⟩,
  ⟨(some 34), none, .bin .neq .i64 (.t 31) (.t 33)⟩,
  ⟨(some 35), none, .mv false (.t 34)⟩,
  ⟨(some 36), some (35, false), .ld (some 4) (.t 2)⟩,
  ⟨(some 37), some (35, false), .ld (some 4) (.t 3)⟩,
  ⟨(some 38), some (35, false), .call false 11 [(.t 36), (.t 37)]⟩,
  ⟨(some 39), some (35, false), .ld (some 4) (.t 3)⟩,
  ⟨(some 40), some (35, false), .ld (some 4) (.t 2)⟩,
  ⟨(some 41), some (35, false), .call false 11 [(.t 39), (.t 40)]⟩,
  ⟨(some 42), some (35, false), .eqS true [.i .i64, .i .i64, .i .i64, .i .i64] (.t 38) (.t 41)⟩,
  ⟨(some 43), none, .pick (.t 35) (.c (.bool true)) (.t 42)⟩,
  ⟨(some 44), none, .mv false (.t 43)⟩,
  ⟨(some 45), some (44, false), .ld (some 4) (.t 2)⟩,
  ⟨(some 46), some (44, false), .ld (some 4) (.t 3)⟩,
  ⟨(some 47), some (44, false), .bsl none 23 4 (some 4) [(.t 45), (.t 46)]⟩,
  ⟨(some 48), some (44, false), .call false 13 [(.t 47)]⟩,
  ⟨(some 49), some (44, false), .ld (some 4) (.t 3)⟩,
  ⟨(some 50), some (44, false), .ld (some 4) (.t 2)⟩,
  ⟨(some 51), some (44, false), .bsl none 23 4 (some 4) [(.t 49), (.t 50)]⟩,
  ⟨(some 52), some (44, false), .call false 13 [(.t 51)]⟩,
  ⟨(some 53), some (44, false), .eqS true [.i .i64, .i .i64, .i .i64, .i .i64] (.t 48) (.t 52)⟩,
  ⟨(some 54), none, .pick (.t 44) (.c (.bool true)) (.t 53)⟩] (some [2, 3, 54])) (
.ite (.t 54) (
  .seq (.reg false [
    ⟨(some 4), none, .mv false (.c (.bool false))⟩] (some [4])) (
  .ret)) (
  .skip))) (
.seq (.reg false [
  ⟨(some 55), none, .ld (some 4) (.t 2)⟩,
  ⟨(some 56), none, .ld (some 4) (.t 3)⟩,
  ⟨(some 57), none, .call false 14 [(.t 55), (.t 56)]⟩,
  ⟨(some 8), none, .mv false (.t 57)⟩] (some [2, 3, 8])) (
.seq (.reg true [
  ⟨(some 58), none, .mv false (.t 8)⟩,
  ⟨(some 59), none, .ld (some 4) (.t 3)⟩,
  ⟨(some 60), none, .ld (some 4) (.t 2)⟩,
  ⟨(some 61), none, .call false 12 [(.t 59), (.t 60)]⟩,
  ⟨(some 62), none, .len false (.t 61)⟩,
  ⟨(some 63), none, .bin .eql .i64 (.t 62) (.c (.int .i64 0))⟩,
  ⟨(some 64), none, .eqb false false (.t 58) (.t 63)⟩,
  ⟨(some 65), none, .mv false (.t 64)⟩,
  ⟨(some 66), some (65, true), .mv false (.t 8)⟩,
  ⟨(some 67), some (65, true), .not (.t 66)⟩,
  ⟨(some 68), some (65, true), .mv false (.t 67)⟩,
  ⟨(some 69), some (68, false), .ld (some 4) (.t 2)⟩,
  ⟨(some 70), some (68, false), .ld (some 4) (.t 3)⟩,
  ⟨(some 71), some (68, false), .bsl none 23 4 (some 4) [(.t 69), (.t 70)]⟩,
  ⟨(some 72), some (68, false), .call false 13 [(.t 71)]⟩,
  ⟨(some 73), some (68, false), .ld (some 4) (.t 2)⟩,
  ⟨(some 74), some (68, false), .bsl none 23 4 (some 4) [(.t 73)]⟩,
  ⟨(some 75), some (68, false), .call false 13 [(.t 74)]⟩,
  ⟨(some 76), some (68, false), .eqS false [.i .i64, .i .i64, .i .i64, .i .i64] (.t 72) (.t 75)⟩,
  ⟨(some 77), some (65, true), .pick (.t 68) (.c (.bool true)) (.t 76)⟩,
  ⟨(some 78), none, .pick (.t 65) (.t 77) (.c (.bool false))⟩,
  ⟨(some 79), none, .mv false (.t 78)⟩,
  ⟨(some 80), some (79, true), .ld (some 4) (.t 2)⟩,
  ⟨(some 81), some (79, true), .ld (some 4) (.t 3)⟩,
  ⟨(some 82), some (79, true), .bsl none 23 4 (some 4) [(.t 80), (.t 81)]⟩,
  ⟨(some 83), some (79, true), .call false 13 [(.t 82)]⟩,
  ⟨(some 84), some (79, true), .ld (some 4) (.t 2)⟩,
  ⟨(some 85), some (79, true), .call false 14 [(.t 83), (.t 84)]⟩,
  ⟨(some 86), none, .pick (.t 79) (.t 85) (.c (.bool false))⟩,
  ⟨(some 87), none, .mv false (.t 86)⟩,
  ⟨(some 88), some (87, true), .ld (some 4) (.t 2)⟩,
  ⟨(some 89), some (87, true), .ld (some 4) (.t 2)⟩,
  ⟨(some 90), some (87, true), .ld (some 4) (.t 3)⟩,
  ⟨(some 91), some (87, true), .call false 11 [(.t 89), (.t 90)]⟩,
  ⟨(some 92), some (87, true), .call false 14 [(.t 88), (.t 91)]⟩,
  ⟨(some 93), none, .pick (.t 87) (.t 92) (.c (.bool false))⟩,
  ⟨(some 4), none, .mv false (.t 93)⟩] (some [4])) (
.ret))))))))
set_option maxRecDepth 1000000 in
theorem comp_law12_RectAreas : (Try.f3.body.bind fun code => compC Try.prog Try.f3.ntmps code c_law12_RectAreas) = some c_law12_RectAreas.bare := by kernel_rfl
def r_law12_RectAreas : List R := [.t 4]
theorem spo_law12_RectAreas {ds : List D} {d : D} (hn : Nat.ble ds.length 94 = true) (h : run TSpM gtab 0 c_law12_RectAreas (retK r_law12_RectAreas (· = d)) ⟨env0 0 ds, []⟩) : TSp 3 ds d := Sp_of mixed c_law12_RectAreas r_law12_RectAreas (fn := Try.f3) (by kernel_rfl) (by kernel_rfl) comp_law12_RectAreas (by kernel_rfl) hn h
theorem spm_law12_RectAreas {ds : List D} {d : D} {bx bx' : List Ent} (hn : Nat.ble ds.length 94 = true) (h : run TSpM gtab (sizeE bx) c_law12_RectAreas (retG r_law12_RectAreas (fun d1 bx1 => Rt (sizeE bx) bx1 d1 d bx')) ⟨env0 0 ds, bx⟩) : TSpM 3 ds bx d bx' := SpM_of mixed c_law12_RectAreas r_law12_RectAreas (fn := Try.f3) (by kernel_rfl) (by kernel_rfl) comp_law12_RectAreas (by kernel_rfl) hn h
/-- glazier/glazierlaw12.RectMany -/
def c_law12_RectMany : C := .seq (.reg false [
  ⟨(some 4), none, .mv false (.c (.bool false))⟩] (some [0, 1])) (
.seq (.seq (.reg false [
  ⟨(some 9), none, .call false 9 []⟩,
  ⟨(some 10), none, .not (.t 9)⟩] (some [0, 1, 10])) (
.ite (.t 10) (
  .seq (.reg false [
    ⟨(some 4), none, .mv false (.c (.bool false))⟩] (some [4])) (
  .ret)) (
  .skip))) (
.seq (.seq (.reg false [
  ⟨(some 11), none, .mv false (.t 0)⟩,
  ⟨(some 12), none, .len false (.t 11)⟩,
  ⟨(some 13), none, .bin .gtr .i64 (.t 12) (.c (.int .i64 100))⟩] (some [0, 1, 13])) (
.ite (.t 13) (
  .seq (.reg false [
    ⟨(some 4), none, .mv false (.c (.bool true))⟩] (some [4])) (
  .ret)) (
  .skip))) (
.seq (.reg false [
  ⟨(some 14), none, .mv false (.t 1)⟩,
  ⟨(some 15), none, .conv .i64 (.t 14)⟩,
  ⟨(some 16), none, .mv false (.t 0)⟩,
  ⟨(some 17), none, .len false (.t 16)⟩,
  ⟨(some 18), none, .bin .add .i64 (.t 17) (.c (.int .i64 1))⟩,
  ⟨(some 19), none, .bin .rem .i64 (.t 15) (.t 18)⟩,
  ⟨(some 5), none, .mv false (.t 19)⟩] (some [0, 5])) (
.seq (.reg false [
  ⟨(some 20), none, .mv false (.t 0)⟩,
  ⟨(some 21), none, .call false 13 [(.t 20)]⟩,
  ⟨(some 6), none, .alloc [(.int .i64 0), (.int .i64 0), (.int .i64 0), (.int .i64 0)]⟩,
  ⟨none, none, .st (some 4) (.t 6) (.t 21)⟩] (some [0, 5, 6])) (
.seq (.reg false [
  ⟨(some 7), none, .nilS 23 4⟩] (some [0, 5, 6, 7])) (
.seq (.seq (.reg false [
  ⟨(some 22), none, .mv false (.t 0)⟩,
  ⟨(some 23), none, .len false (.t 22)⟩,
  ⟨(some 24), none, .bin .sub .i64 (.t 23) (.c (.int .i64 1))⟩,
  ⟨(some 8), none, .mv false (.t 24)⟩] (some [0, 5, 6, 7, 8])) (
.blk 0 (
  .loop (
    .seq (.seq (.reg false [
      ⟨(some 25), none, .mv false (.t 8)⟩,
      ⟨(some 26), none, .bin .geq .i64 (.t 25) (.c (.int .i64 0))⟩] (some [0, 5, 6, 7, 8, 26])) (
    .ite (.t 26) (
      .skip) (
      .exit 0))) (
    .seq (.blk 1 (
      .seq (.seq (.reg true [
        ⟨(some 29), none, .ld (some 4) (.t 6)⟩,
        ⟨(some 30), none, .mv false (.t 0)⟩,
        ⟨(some 31), none, .mv false (.t 8)⟩,
        ⟨(some 32), none, .ixs 4 (.t 30) (.t 31)⟩,
        ⟨(some 33), none, .ld (some 4) (.t 32)⟩,
        ⟨(some 34), none, .call false 14 [(.t 29), (.t 33)]⟩,
        ⟨(some 35), none, .not (.t 34)⟩] (some [0, 5, 6, 7, 8, 35])) (
      .ite (.t 35) (
        .seq (.reg false [
          ⟨(some 4), none, .mv false (.c (.bool false))⟩] (some [4])) (
        .ret)) (
        .skip))) (
      .reg false [
        ⟨(some 36), none, .mv false (.t 7)⟩,
        ⟨(some 37), none, .mv false (.t 0)⟩,
        ⟨(some 38), none, .mv false (.t 8)⟩,
        ⟨(some 39), none, .ixs 4 (.t 37) (.t 38)⟩,
        ⟨(some 40), none, .ld (some 4) (.t 39)⟩,
        ⟨(some 41), none, .bsl none 23 4 (some 4) [(.t 40)]⟩,
        ⟨(some 42), none, .app 23 4 32 (.t 36) (.t 41)⟩,
        ⟨(some 7), none, .mv false (.t 42)⟩] (some [0, 5, 6, 7, 8])))) (
    .reg false [
      ⟨(some 27), none, .mv false (.t 8)⟩,
      ⟨(some 28), none, .bin .sub .i64 (.t 27) (.c (.int .i64 1))⟩,
      ⟨(some 8), none, .mv false (.t 28)⟩] (some [0, 5, 6, 7, 8]))))))) (
.seq (.reg true [
  ⟨(some 43), none, .ld (some 4) (.t 6)⟩,
  ⟨(some 44), none, .mv false (.t 0)⟩,
  ⟨(some 45), none, .mv false (.t 5)⟩,
  ⟨(some 46), none, .sls false 4 (.t 44) none (some (.t 45))⟩,
  ⟨(some 47), none, .call false 13 [(.t 46)]⟩,
  ⟨(some 48), none, .mv false (.t 0)⟩,
  ⟨(some 49), none, .mv false (.t 5)⟩,
  ⟨(some 50), none, .sls false 4 (.t 48) (some (.t 49)) none⟩,
  ⟨(some 51), none, .call false 13 [(.t 50)]⟩,
  ⟨(some 52), none, .bsl none 23 4 (some 4) [(.t 47), (.t 51)]⟩,
  ⟨(some 53), none, .call false 13 [(.t 52)]⟩,
  ⟨(some 54), none, .eqS false [.i .i64, .i .i64, .i .i64, .i .i64] (.t 43) (.t 53)⟩,
  ⟨(some 55), none, .mv false (.t 54)⟩,
  ⟨(some 56), some (55, true), .ld (some 4) (.t 6)⟩,
  ⟨(some 57), some (55, true), .mv false (.t 7)⟩,
  ⟨(some 58), some (55, true), .call false 13 [(.t 57)]⟩,
  ⟨(some 59), some (55, true), .eqS false [.i .i64, .i .i64, .i .i64, .i .i64] (.t 56) (.t 58)⟩,
  ⟨(some 60), none, .pick (.t 55) (.t 59) (.c (.bool false))⟩,
  ⟨(some 4), none, .mv false (.t 60)⟩] (some [4])) (
.ret))))))))
set_option maxRecDepth 1000000 in
theorem comp_law12_RectMany : (Try.f4.body.bind fun code => compC Try.prog Try.f4.ntmps code c_law12_RectMany) = some c_law12_RectMany.bare := by kernel_rfl
def r_law12_RectMany : List R := [.t 4]
theorem spo_law12_RectMany {ds : List D} {d : D} (hn : Nat.ble ds.length 61 = true) (h : run TSpM gtab 0 c_law12_RectMany (retK r_law12_RectMany (· = d)) ⟨env0 0 ds, []⟩) : TSp 4 ds d := Sp_of mixed c_law12_RectMany r_law12_RectMany (fn := Try.f4) (by kernel_rfl) (by kernel_rfl) comp_law12_RectMany (by kernel_rfl) hn h
theorem spm_law12_RectMany {ds : List D} {d : D} {bx bx' : List Ent} (hn : Nat.ble ds.length 61 = true) (h : run TSpM gtab (sizeE bx) c_law12_RectMany (retG r_law12_RectMany (fun d1 bx1 => Rt (sizeE bx) bx1 d1 d bx')) ⟨env0 0 ds, bx⟩) : TSpM 4 ds bx d bx' := SpM_of mixed c_law12_RectMany r_law12_RectMany (fn := Try.f4) (by kernel_rfl) (by kernel_rfl) comp_law12_RectMany (by kernel_rfl) hn h
/-- glazier/glazierlaw12.RectPlaces -/
def c_law12_RectPlaces : C := .seq (.reg false [
  ⟨(some 4), none, .box true (.t 0)⟩,
  ⟨(some 5), none, .box true (.t 1)⟩,
  ⟨(some 8), none, .mv false (.c (.bool false))⟩] (some [2, 3, 4, 5])) (
.seq (.seq (.reg false [
  ⟨(some 14), none, .call false 9 []⟩,
  ⟨(some 15), none, .not (.t 14)⟩] (some [2, 3, 4, 5, 15])) (
.ite (.t 15) (
  .seq (.reg false [
    ⟨(some 8), none, .mv false (.c (.bool false))⟩] (some [8])) (
  .ret)) (
  .skip))) (
.seq (.reg true [
  ⟨(some 16), none, .ld (some 4) (.t 4)⟩,
  ⟨(some 17), none, .mv false (.t 2)⟩,
  ⟨(some 18), none, .mv false (.t 3)⟩,
  ⟨(some 19), none, .call false 15 [(.t 16), (.t 17), (.t 18)]⟩,
  ⟨(some 20), none, .ld (some 4) (.t 5)⟩,
  ⟨(some 21), none, .mv false (.t 2)⟩,
  ⟨(some 22), none, .mv false (.t 3)⟩,
  ⟨(some 23), none, .call false 15 [(.t 20), (.t 21), (.t 22)]⟩,
  ⟨(some 9), none, .mv false (.t 19)⟩,
  ⟨(some 10), none, .mv false (.t 23)⟩] (some [2, 3, 4, 5, 9, 10])) (
.seq (.reg false [
  ⟨(some 11), none, .mv false (.c (.int .i64 0))⟩] (some [2, 3, 4, 5, 9, 10, 11])) (
.seq (.reg false [
  ⟨(some 24), none, .ld (some 4) (.t 4)⟩,
  ⟨(some 25), none, .ld (some 4) (.t 5)⟩,
  ⟨(some 26), none, .call false 12 [(.t 24), (.t 25)]⟩,
  ⟨(some 12), none, .mv false (.t 26)⟩] (some [2, 3, 4, 5, 9, 10, 11, 12])) (
.seq (.seq (.reg false [
  ⟨(some 13), none, .mv false (.c (.int .i64 0))⟩] (some [2, 3, 4, 5, 9, 10, 11, 12, 13])) (
.blk 0 (
  .loop (
    .seq (.seq (.reg false [
      ⟨(some 27), none, .mv false (.t 13)⟩,
      ⟨(some 28), none, .mv false (.t 12)⟩,
      ⟨(some 29), none, .len false (.t 28)⟩,
      ⟨(some 30), none, .bin .lss .i64 (.t 27) (.t 29)⟩] (some [2, 3, 4, 5, 9, 10, 11, 12, 13, 30])) (
    .ite (.t 30) (
      .skip) (
      .exit 0))) (
    .seq (.blk 1 (
      .seq (.seq (.reg false [
        ⟨(some 33), none, .mv false (.t 12)⟩,
        ⟨(some 34), none, .mv false (.t 13)⟩,
        ⟨(some 35), none, .ixs 4 (.t 33) (.t 34)⟩,
        ⟨(some 36), none, .ld (some 4) (.t 35)⟩,
        ⟨(some 37), none, .call false 16 [(.t 36)]⟩,
        ⟨(some 38), none, .mv false (.t 37)⟩,
        ⟨(some 39), some (38, false), .mv false (.t 12)⟩,
        ⟨(some 40), some (38, false), .mv false (.t 13)⟩,
        ⟨(some 41), some (38, false), .ixs 4 (.t 39) (.t 40)⟩,
        ⟨(some 42), some (38, false), .ld (some 4) (.t 41)⟩,
        ⟨(some 43), some (38, false), .call false 17 [(.t 42)]⟩,
        ⟨(some 44), some (38, false), .bin .neq .i64 (.t 43) (.c (.int .i64 0))⟩,
        ⟨(some 45), none, .pick (.t 38) (.c (.bool true)) (.t 44)⟩] (some [2, 3, 4, 5, 9, 10, 11, 12, 13, 45])) (
      .ite (.t 45) (
        .seq (.reg false [
          ⟨(some 8), none, .mv false (.c (.bool false))⟩] (some [8])) (
        .ret)) (
        .skip))) (
      .seq (.reg false [
        ⟨(some 46), none, .mv false (.t 12)⟩,
        ⟨(some 47), none, .mv false (.t 13)⟩,
        ⟨(some 48), none, .ixs 4 (.t 46) (.t 47)⟩,
        ⟨(some 49), none, .ld (some 4) (.t 48)⟩,
        ⟨(some 50), none, .mv false (.t 2)⟩,
        ⟨(some 51), none, .mv false (.t 3)⟩,
        ⟨(some 52), none, .call false 15 [(.t 49), (.t 50), (.t 51)]⟩] (some [2, 3, 4, 5, 9, 10, 11, 12, 13, 52])) (
      .ite (.t 52) (
        .reg false [
          ⟨(some 53), none, .mv false (.t 11)⟩,
          ⟨(some 54), none, .bin .add .i64 (.t 53) (.c (.int .i64 1))⟩,
          ⟨(some 11), none, .mv false (.t 54)⟩] (some [2, 3, 4, 5, 9, 10, 11, 12, 13])) (
        .skip))))) (
    .reg false [
      ⟨(some 31), none, .mv false (.t 13)⟩,
      ⟨(some 32), none, .bin .add .i64 (.t 31) (.c (.int .i64 1))⟩,
      ⟨(some 13), none, .mv false (.t 32)⟩] (some [2, 3, 4, 5, 9, 10, 11, 12, 13]))))))) (
.seq (.seq (.reg false [
  ⟨(some 55), none, .ld (some 4) (.t 4)⟩,
  ⟨(some 56), none, .ld (some 4) (.t 5)⟩,
  ⟨(some 57), none, .call false 11 [(.t 55), (.t 56)]⟩,
  ⟨(some 58), none, .mv false (.t 2)⟩,
  ⟨(some 59), none, .mv false (.t 3)⟩,
  ⟨(some 60), none, .call false 15 [(.t 57), (.t 58), (.t 59)]⟩,
  ⟨(some 61), none, .mv false (.t 9)⟩,
  ⟨(some 62), none, .mv false (.t 61)⟩,
  ⟨(some 63), some (62, true), .mv false (.t 10)⟩,
  ⟨(some 64), none, .pick (.t 62) (.t 63) (.c (.bool false))⟩,
  ⟨(some 65), none, .eqb true false (.t 60) (.t 64)⟩,
  ⟨(some 66), none, .mv false (.t 65)⟩,
  ⟨(some 67), some (66, false), .mv false (.t 11)⟩,
  ⟨(some 68), some (66, false), .bin .eql .i64 (.t 67) (.c (.int .i64 1))⟩,
  ⟨(some 69), some (66, false), .mv false (.t 9)⟩,
  ⟨(some 70), some (66, false), .mv false (.t 69)⟩,
  ⟨(some 71), some (70, true), .mv false (.t 10)⟩,
  ⟨(some 72), some (70, true), .not (.t 71)⟩,
  ⟨(some 73), some (66, false), .pick (.t 70) (.t 72) (.c (.bool false))⟩,
  ⟨(some 74), some (66, false), .eqb true false (.t 68) (.t 73)⟩,
  ⟨(some 75), none, .pick (.t 66) (.c (.bool true)) (.t 74)⟩,
  ⟨(some 76), none, .mv false (.t 75)⟩,
  ⟨(some 77), some (76, false), .mv false (.t 11)⟩,
  ⟨(some 78), some (76, false), .bin .gtr .i64 (.t 77) (.c (.int .i64 1))⟩,
  ⟨(some 79), none, .pick (.t 76) (.c (.bool true)) (.t 78)⟩,
  ⟨(some 80), none, .mv false (.t 79)⟩,
  ⟨(some 81), some (80, false), .mv false (.t 12)⟩,
  ⟨(some 82), some (80, false), .len false (.t 81)⟩,
  ⟨(some 83), some (80, false), .bin .gtr .i64 (.t 82) (.c (.int .i64 4))⟩,
  ⟨(some 84), none, .pick (.t 80) (.c (.bool true)) (.t 83)⟩] (some [2, 3, 4, 5, 9, 10, 84])) (
.ite (.t 84) (
  .seq (.reg false [
    ⟨(some 8), none, .mv false (.c (.bool false))⟩] (some [8])) (
  .ret)) (
  .skip))) (
.seq (.reg false [
  ⟨(some 85), none, .ld (some 4) (.t 4)⟩,
  ⟨(some 86), none, .ld (some 4) (.t 5)⟩,
  ⟨(some 87), none, .bsl none 23 4 (some 4) [(.t 85), (.t 86)]⟩,
  ⟨(some 88), none, .call false 13 [(.t 87)]⟩,
  ⟨(some 89), none, .mv false (.t 2)⟩,
  ⟨(some 90), none, .mv false (.t 3)⟩,
  ⟨(some 91), none, .call false 15 [(.t 88), (.t 89), (.t 90)]⟩,
  ⟨(some 92), none, .mv false (.t 91)⟩,
  ⟨(some 93), some (92, false), .mv false (.t 9)⟩,
  ⟨(some 94), some (92, false), .not (.t 93)⟩,
  ⟨(some 95), some (92, false), .mv false (.t 94)⟩,
  ⟨(some 96), some (95, true), .mv false (.t 10)⟩,
  ⟨(some 97), some (95, true), .not (.t 96)⟩,
  ⟨(some 98), some (92, false), .pick (.t 95) (.t 97) (.c (.bool false))⟩,
  ⟨(some 99), none, .pick (.t 92) (.c (.bool true)) (.t 98)⟩,
  ⟨(some 8), none, .mv false (.t 99)⟩] (some [8])) (
.ret))))))))
set_option maxRecDepth 1000000 in
theorem comp_law12_RectPlaces : (Try.f5.body.bind fun code => compC Try.prog Try.f5.ntmps code c_law12_RectPlaces) = some c_law12_RectPlaces.bare := by kernel_rfl
def r_law12_RectPlaces : List R := [.t 8]
theorem spo_law12_RectPlaces {ds : List D} {d : D} (hn : Nat.ble ds.length 100 = true) (h : run TSpM gtab 0 c_law12_RectPlaces (retK r_law12_RectPlaces (· = d)) ⟨env0 0 ds, []⟩) : TSp 5 ds d := Sp_of mixed c_law12_RectPlaces r_law12_RectPlaces (fn := Try.f5) (by kernel_rfl) (by kernel_rfl) comp_law12_RectPlaces (by kernel_rfl) hn h
theorem spm_law12_RectPlaces {ds : List D} {d : D} {bx bx' : List Ent} (hn : Nat.ble ds.length 100 = true) (h : run TSpM gtab (sizeE bx) c_law12_RectPlaces (retG r_law12_RectPlaces (fun d1 bx1 => Rt (sizeE bx) bx1 d1 d bx')) ⟨env0 0 ds, bx⟩) : TSpM 5 ds bx d bx' := SpM_of mixed c_law12_RectPlaces r_law12_RectPlaces (fn := Try.f5) (by kernel_rfl) (by kernel_rfl) comp_law12_RectPlaces (by kernel_rfl) hn h
/-- glazier/glazierlaw12.RectTells -/
def c_law12_RectTells : C := .seq (.reg false [
  ⟨(some 4), none, .box true (.t 0)⟩,
  ⟨(some 5), none, .box true (.t 1)⟩,
  ⟨(some 8), none, .mv false (.c (.bool false))⟩] (some [2, 3, 4, 5])) (
.seq (.seq (.reg false [
  ⟨(some 10), none, .call false 9 []⟩,
  ⟨(some 11), none, .not (.t 10)⟩] (some [2, 3, 4, 5, 11])) (
.ite (.t 11) (
  .seq (.reg false [
    ⟨(some 8), none, .mv false (.c (.bool false))⟩] (some [8])) (
  .ret)) (
  .skip))) (
.seq (.reg false [
  ⟨(some 9), none, .mv false (.c (.int .i64 0))⟩] (some [2, 3, 4, 5, 9])) (
.seq (.seq (.reg false [
  ⟨(some 12), none, .ld (some 4) (.t 4)⟩,
  ⟨(some 13), none, .call false 18 [(.t 12)]⟩,
  ⟨(some 14), none, .not (.t 13)⟩] (some [2, 3, 4, 5, 9, 14])) (
.ite (.t 14) (
  .reg false [
    ⟨(some 9), none, .mv false (.c (.int .i64 1))⟩] (some [2, 3, 4, 5, 9])) (
  .skip))) (
.seq (.reg true [
  ⟨(some 15), none, .ld (some 4) (.t 4)⟩,
  ⟨(some 16), none, .call false 17 [(.t 15)]⟩,
  ⟨(some 17), none, .mv false (.t 9)⟩,
  ⟨(some 18), none, .bin .eql .i64 (.t 16) (.t 17)⟩,
  ⟨(some 19), none, .mv false (.t 18)⟩,
  ⟨(some 20), some (19, true), .ld (some 4) (.t 4)⟩,
  ⟨(some 21), some (19, true), .call false 16 [(.t 20)]⟩,
  ⟨(some 22), some (19, true), .ld (some 4) (.t 4)⟩,
  ⟨(some 23), some (19, true), .call false 19 [(.t 22)]⟩,
  ⟨(some 24), some (19, true), .part 2 none (.t 23)⟩,
  ⟨(some 25), some (19, true), .bin .eql .i64 (.t 24) (.c (.int .i64 0))⟩,
  ⟨(some 26), some (19, true), .eqb false false (.t 21) (.t 25)⟩,
  ⟨(some 27), none, .pick (.t 19) (.t 26) (.c (.bool false))⟩,
  ⟨(some 28), none, .mv false (.t 27)⟩,
  ⟨(some 29), some (28, true), .ld (some 4) (.t 4)⟩,
  ⟨(some 30), some (28, true), .mv false (.t 2)⟩,
  ⟨(some 31), some (28, true), .mv false (.t 3)⟩,
  ⟨(some 32), some (28, true), .call false 15 [(.t 29), (.t 30), (.t 31)]⟩,
  ⟨(some 33), some (28, true), .ld (some 4) (.t 4)⟩,
  ⟨(some 34), some (28, true), .mv false (.t 2)⟩,
  ⟨(some 35), some (28, true), .mv false (.t 3)⟩,
  ⟨(some 36), some (28, true), .call false 20 [(.t 33), (.t 34), (.t 35)]⟩,
  ⟨(some 37), some (28, true), .eqb false false (.t 32) (.t 36)⟩,
  ⟨(some 38), none, .pick (.t 28) (.t 37) (.c (.bool false))⟩,
  ⟨(some 39), none, .mv false (.t 38)⟩,
  ⟨(some 40), some (39, true), .ld (some 4) (.t 4)⟩,
  ⟨(some 41), some (39, true), .ld (some 4) (.t 5)⟩,
  ⟨(some 42), some (39, true), .call false 14 [(.t 40), (.t 41)]⟩,
  ⟨(some 43), some (39, true), .ld (some 4) (.t 4)⟩,
  ⟨(some 44), some (39, true), .ld (some 4) (.t 5)⟩,
  ⟨(some 45), some (39, true), .call false 21 [(.t 43), (.t 44)]⟩,
  ⟨(some 46), some (39, true), .eqb false false (.t 42) (.t 45)⟩,
  ⟨(some 47), none, .pick (.t 39) (.t 46) (.c (.bool false))⟩,
  ⟨(some 48), none, .mv false (.t 47)⟩,
  ⟨(some 49), some (48, true), .ld (some 4) (.t 4)⟩,
  ⟨(some 50), some (48, true), .call false 10 [(.t 49)]⟩,
  ⟨(some 51), some (48, true), .ld (some 4) (.t 4)⟩,
  ⟨(some 52), some (48, true), .call false 22 [(.t 51)]⟩,
  ⟨(some 53), some (48, true), .bin .eql .i64 (.t 50) (.t 52)⟩,
  ⟨(some 54), none, .pick (.t 48) (.t 53) (.c (.bool false))⟩,
  ⟨(some 55), none, .mv false (.t 54)⟩,
  ⟨(some 56), some (55, true), .ld (some 4) (.t 4)⟩,
  ⟨(some 57), some (55, true), .ld (some 4) (.t 5)⟩,
  ⟨(some 58), some (55, true), .call false 11 [(.t 56), (.t 57)]⟩,
  ⟨(some 59), some (55, true), .ld (some 4) (.t 4)⟩,
  ⟨(some 60), some (55, true), .ld (some 4) (.t 5)⟩,
  ⟨(some 61), some (55, true), .call false 23 [(.t 59), (.t 60)]⟩,
  ⟨(some 62), some (55, true), .eqS false [.i .i64, .i .i64, .i .i64, .i .i64] (.t 58) (.t 61)⟩,
  ⟨(some 63), none, .pick (.t 55) (.t 62) (.c (.bool false))⟩,
  ⟨(some 64), none, .mv false (.t 63)⟩,
  ⟨(some 65), some (64, true), .ld (some 4) (.t 4)⟩,
  ⟨(some 66), some (64, true), .ld (some 4) (.t 5)⟩,
  ⟨(some 67), some (64, true), .call false 12 [(.t 65), (.t 66)]⟩,
  ⟨(some 68), some (64, true), .ld (some 4) (.t 4)⟩,
  ⟨(some 69), some (64, true), .ld (some 4) (.t 5)⟩,
  ⟨(some 70), some (64, true), .call false 25 [(.t 68), (.t 69)]⟩,
  ⟨(some 71), some (64, true), .call false 24 [(.t 67), (.t 70)]⟩,
  ⟨(some 72), none, .pick (.t 64) (.t 71) (.c (.bool false))⟩,
  ⟨(some 8), none, .mv false (.t 72)⟩] (some [8])) (
.ret)))))
set_option maxRecDepth 1000000 in
theorem comp_law12_RectTells : (Try.f6.body.bind fun code => compC Try.prog Try.f6.ntmps code c_law12_RectTells) = some c_law12_RectTells.bare := by kernel_rfl
def r_law12_RectTells : List R := [.t 8]
theorem spo_law12_RectTells {ds : List D} {d : D} (hn : Nat.ble ds.length 73 = true) (h : run TSpM gtab 0 c_law12_RectTells (retK r_law12_RectTells (· = d)) ⟨env0 0 ds, []⟩) : TSp 6 ds d := Sp_of mixed c_law12_RectTells r_law12_RectTells (fn := Try.f6) (by kernel_rfl) (by kernel_rfl) comp_law12_RectTells (by kernel_rfl) hn h
theorem spm_law12_RectTells {ds : List D} {d : D} {bx bx' : List Ent} (hn : Nat.ble ds.length 73 = true) (h : run TSpM gtab (sizeE bx) c_law12_RectTells (retG r_law12_RectTells (fun d1 bx1 => Rt (sizeE bx) bx1 d1 d bx')) ⟨env0 0 ds, bx⟩) : TSpM 6 ds bx d bx' := SpM_of mixed c_law12_RectTells r_law12_RectTells (fn := Try.f6) (by kernel_rfl) (by kernel_rfl) comp_law12_RectTells (by kernel_rfl) hn h
/-- glazier/glazierlaw12.RectMoves -/
def c_law12_RectMoves : C := .seq (.reg false [
  ⟨(some 5), none, .box true (.t 1)⟩,
  ⟨(some 8), none, .mv false (.c (.bool false))⟩] (some [0, 2, 3, 5])) (
.seq (.seq (.reg false [
  ⟨(some 9), none, .call false 9 []⟩,
  ⟨(some 10), none, .not (.t 9)⟩] (some [0, 2, 3, 5, 10])) (
.ite (.t 10) (
  .seq (.reg false [
    ⟨(some 8), none, .mv false (.c (.bool false))⟩] (some [8])) (
  .ret)) (
  .skip))) (
.seq (.seq (.reg false [
  ⟨(some 11), none, .mv false (.t 0)⟩,
  ⟨(some 12), none, .len false (.t 11)⟩,
  ⟨(some 13), none, .bin .gtr .i64 (.t 12) (.c (.int .i64 200))⟩] (some [0, 2, 3, 5, 13])) (
.ite (.t 13) (
  .seq (.reg false [
    ⟨(some 8), none, .mv false (.c (.bool true))⟩] (some [8])) (
  .ret)) (
  .skip))) (
.seq (.reg true [
  ⟨(some 14), none, .mv false (.t 0)⟩,
  ⟨(some 15), none, .call false 13 [(.t 14)]⟩,
  ⟨(some 16), none, .mv false (.t 0)⟩,
  ⟨(some 17), none, .call false 26 [(.t 16)]⟩,
  ⟨(some 18), none, .eqS false [.i .i64, .i .i64, .i .i64, .i .i64] (.t 15) (.t 17)⟩,
  ⟨(some 19), none, .mv false (.t 18)⟩,
  ⟨(some 20), some (19, true), .ld (some 4) (.t 5)⟩,
  ⟨(some 21), some (19, true), .mv false (.t 2)⟩,
  ⟨(some 22), some (19, true), .mv false (.t 3)⟩,
  ⟨(some 23), some (19, true), .call false 27 [(.t 20), (.t 21), (.t 22)]⟩,
  ⟨(some 24), some (19, true), .ld (some 4) (.t 5)⟩,
  ⟨(some 25), some (19, true), .mv false (.t 2)⟩,
  ⟨(some 26), some (19, true), .mv false (.t 3)⟩,
  ⟨(some 27), some (19, true), .call false 28 [(.t 24), (.t 25), (.t 26)]⟩,
  ⟨(some 28), some (19, true), .eqS false [.i .i64, .i .i64, .i .i64, .i .i64] (.t 23) (.t 27)⟩,
  ⟨(some 29), none, .pick (.t 19) (.t 28) (.c (.bool false))⟩,
  ⟨(some 8), none, .mv false (.t 29)⟩] (some [8])) (
.ret))))
set_option maxRecDepth 1000000 in
theorem comp_law12_RectMoves : (Try.f7.body.bind fun code => compC Try.prog Try.f7.ntmps code c_law12_RectMoves) = some c_law12_RectMoves.bare := by kernel_rfl
def r_law12_RectMoves : List R := [.t 8]
theorem spo_law12_RectMoves {ds : List D} {d : D} (hn : Nat.ble ds.length 30 = true) (h : run TSpM gtab 0 c_law12_RectMoves (retK r_law12_RectMoves (· = d)) ⟨env0 0 ds, []⟩) : TSp 7 ds d := Sp_of mixed c_law12_RectMoves r_law12_RectMoves (fn := Try.f7) (by kernel_rfl) (by kernel_rfl) comp_law12_RectMoves (by kernel_rfl) hn h
theorem spm_law12_RectMoves {ds : List D} {d : D} {bx bx' : List Ent} (hn : Nat.ble ds.length 30 = true) (h : run TSpM gtab (sizeE bx) c_law12_RectMoves (retG r_law12_RectMoves (fun d1 bx1 => Rt (sizeE bx) bx1 d1 d bx')) ⟨env0 0 ds, bx⟩) : TSpM 7 ds bx d bx' := SpM_of mixed c_law12_RectMoves r_law12_RectMoves (fn := Try.f7) (by kernel_rfl) (by kernel_rfl) comp_law12_RectMoves (by kernel_rfl) hn h
/-- glazier/glazierlaw12.RectThere -/
def c_law12_RectThere : C := .seq (.reg false [
  ⟨(some 5), none, .box true (.t 0)⟩,
  ⟨(some 10), none, .mv false (.c (.bool false))⟩] (some [1, 2, 3, 4, 5])) (
.seq (.seq (.reg false [
  ⟨(some 12), none, .call false 9 []⟩,
  ⟨(some 13), none, .not (.t 12)⟩] (some [1, 2, 3, 4, 5, 13])) (
.ite (.t 13) (
  .seq (.reg false [
    ⟨(some 10), none, .mv false (.c (.bool false))⟩] (some [10])) (
  .ret)) (
  .skip))) (
.seq (.reg false [
  ⟨(some 14), none, .ld (some 4) (.t 5)⟩,
  ⟨(some 15), none, .mv false (.t 1)⟩,
  ⟨(some 16), none, .conv .i64 (.t 15)⟩,
  ⟨(some 17), none, .mv false (.t 2)⟩,
  ⟨(some 18), none, .conv .i64 (.t 17)⟩,
  ⟨(some 19), none, .call false 27 [(.t 14), (.t 16), (.t 18)]⟩,
  ⟨(some 11), none, .alloc [(.int .i64 0), (.int .i64 0), (.int .i64 0), (.int .i64 0)]⟩,
  ⟨none, none, .st (some 4) (.t 11) (.t 19)⟩] (some [1, 2, 3, 4, 5, 11])) (
.seq (.seq (.reg false [
  ⟨(some 20), none, .ld (some 4) (.t 11)⟩,
  ⟨(some 21), none, .call false 16 [(.t 20)]⟩] (some [1, 2, 3, 4, 5, 11, 21])) (
.ite (.t 21) (
  .seq (.reg false [
    ⟨(some 22), none, .ld (some 4) (.t 11)⟩,
    ⟨(some 23), none, .call false 10 [(.t 22)]⟩,
    ⟨(some 24), none, .bin .eql .i64 (.t 23) (.c (.int .i64 0))⟩,
    ⟨(some 10), none, .mv false (.t 24)⟩] (some [10])) (
  .ret)) (
  .skip))) (
.seq (.reg true [
  ⟨(some 25), none, .ld (some 4) (.t 11)⟩,
  ⟨(some 26), none, .mv false (.t 1)⟩,
  ⟨(some 27), none, .conv .i64 (.t 26)⟩,
  ⟨(some 28), none, .neg .i64 (.t 27)⟩,
  ⟨(some 29), none, .mv false (.t 2)⟩,
  ⟨(some 30), none, .conv .i64 (.t 29)⟩,
  ⟨(some 31), none, .neg .i64 (.t 30)⟩,
  ⟨(some 32), none, .call false 27 [(.t 25), (.t 28), (.t 31)]⟩,
  ⟨(some 33), none, .ld (some 4) (.t 5)⟩,
  ⟨(some 34), none, .eqS false [.i .i64, .i .i64, .i .i64, .i .i64] (.t 32) (.t 33)⟩,
  ⟨(some 35), none, .mv false (.t 34)⟩,
  ⟨(some 36), some (35, true), .ld (some 4) (.t 11)⟩,
  ⟨(some 37), some (35, true), .call false 10 [(.t 36)]⟩,
  ⟨(some 38), some (35, true), .ld (some 4) (.t 5)⟩,
  ⟨(some 39), some (35, true), .call false 10 [(.t 38)]⟩,
  ⟨(some 40), some (35, true), .bin .eql .i64 (.t 37) (.t 39)⟩,
  ⟨(some 41), none, .pick (.t 35) (.t 40) (.c (.bool false))⟩,
  ⟨(some 42), none, .mv false (.t 41)⟩,
  ⟨(some 43), some (42, true), .ld (some 4) (.t 5)⟩,
  ⟨(some 44), some (42, true), .mv false (.t 3)⟩,
  ⟨(some 45), some (42, true), .conv .i64 (.t 44)⟩,
  ⟨(some 46), some (42, true), .mv false (.t 4)⟩,
  ⟨(some 47), some (42, true), .conv .i64 (.t 46)⟩,
  ⟨(some 48), some (42, true), .call false 15 [(.t 43), (.t 45), (.t 47)]⟩,
  ⟨(some 49), some (42, true), .ld (some 4) (.t 11)⟩,
  ⟨(some 50), some (42, true), .mv false (.t 3)⟩,
  ⟨(some 51), some (42, true), .conv .i64 (.t 50)⟩,
  ⟨(some 52), some (42, true), .mv false (.t 1)⟩,
  ⟨(some 53), some (42, true), .conv .i64 (.t 52)⟩,
  ⟨(some 54), some (42, true), .bin .add .i64 (.t 51) (.t 53)⟩,
  ⟨(some 55), some (42, true), .mv false (.t 4)⟩,
  ⟨(some 56), some (42, true), .conv .i64 (.t 55)⟩,
  ⟨(some 57), some (42, true), .mv false (.t 2)⟩,
  ⟨(some 58), some (42, true), .conv .i64 (.t 57)⟩,
  ⟨(some 59), some (42, true), .bin .add .i64 (.t 56) (.t 58)⟩,
  ⟨(some 60), some (42, true), .call false 15 [(.t 49), (.t 54), (.t 59)]⟩,
  ⟨(some 61), some (42, true), .eqb false false (.t 48) (.t 60)⟩,
  ⟨(some 62), none, .pick (.t 42) (.t 61) (.c (.bool false))⟩,
  ⟨(some 10), none, .mv false (.t 62)⟩] (some [10])) (
.ret)))))
set_option maxRecDepth 1000000 in
theorem comp_law12_RectThere : (Try.f8.body.bind fun code => compC Try.prog Try.f8.ntmps code c_law12_RectThere) = some c_law12_RectThere.bare := by kernel_rfl
def r_law12_RectThere : List R := [.t 10]
theorem spo_law12_RectThere {ds : List D} {d : D} (hn : Nat.ble ds.length 63 = true) (h : run TSpM gtab 0 c_law12_RectThere (retK r_law12_RectThere (· = d)) ⟨env0 0 ds, []⟩) : TSp 8 ds d := Sp_of mixed c_law12_RectThere r_law12_RectThere (fn := Try.f8) (by kernel_rfl) (by kernel_rfl) comp_law12_RectThere (by kernel_rfl) hn h
theorem spm_law12_RectThere {ds : List D} {d : D} {bx bx' : List Ent} (hn : Nat.ble ds.length 63 = true) (h : run TSpM gtab (sizeE bx) c_law12_RectThere (retG r_law12_RectThere (fun d1 bx1 => Rt (sizeE bx) bx1 d1 d bx')) ⟨env0 0 ds, bx⟩) : TSpM 8 ds bx d bx' := SpM_of mixed c_law12_RectThere r_law12_RectThere (fn := Try.f8) (by kernel_rfl) (by kernel_rfl) comp_law12_RectThere (by kernel_rfl) hn h
/-- glazier/glazierlaw12.awake -/
def c_law12_awake : C := .seq (.reg false [
  ⟨(some 0), none, .mv false (.c (.bool false))⟩] (some [])) (
.seq (.reg false [
  ⟨(some 4), none, .bld [(.int .i64 0), (.int .i64 0), (.int .i64 0), (.int .i64 0)] [(2, none, (.c (.int .i64 4))), (3, none, (.c (.int .i64 3)))]⟩,
  ⟨(some 5), none, .bld [(.int .i64 0), (.int .i64 0), (.int .i64 0), (.int .i64 0)] [(0, none, (.c (.int .i64 2))), (1, none, (.c (.int .i64 1))), (2, none, (.c (.int .i64 9))), (3, none, (.c (.int .i64 9)))]⟩,
  ⟨(some 1), none, .alloc [(.int .i64 0), (.int .i64 0), (.int .i64 0), (.int .i64 0)]⟩,
  ⟨(some 2), none, .alloc [(.int .i64 0), (.int .i64 0), (.int .i64 0), (.int .i64 0)]⟩,
  ⟨none, none, .st (some 4) (.t 1) (.t 4)⟩,
  ⟨none, none, .st (some 4) (.t 2) (.t 5)⟩] (some [1, 2])) (
.seq (.reg false [
  ⟨(some 6), none, .ld (some 4) (.t 1)⟩,
  ⟨(some 7), none, .ld (some 4) (.t 2)⟩,
  ⟨(some 8), none, .call false 12 [(.t 6), (.t 7)]⟩,
  ⟨(some 3), none, .mv false (.t 8)⟩] (some [1, 2, 3])) (
.seq (.reg false [
  ⟨(some 9), none, .ld (some 4) (.t 1)⟩,
  ⟨(some 10), none, .ld (some 4) (.t 2)⟩,
  ⟨(some 11), none, .call false 11 [(.t 9), (.t 10)]⟩,
  ⟨(some 12), none, .bld [(.int .i64 0), (.int .i64 0), (.int .i64 0), (.int .i64 0)] [(0, none, (.c (.int .i64 2))), (1, none, (.c (.int .i64 1))), (2, none, (.c (.int .i64 2))), (3, none, (.c (.int .i64 2)))]⟩,
  ⟨(some 13), none, .eqS false [.i .i64, .i .i64, .i .i64, .i .i64] (.t 11) (.t 12)⟩,
  ⟨(some 14), none, .mv false (.t 13)⟩,
  ⟨(some 15), some (14, true), .ld (some 4) (.t 1)⟩,
  ⟨(some 16), some (14, true), .ld (some 4) (.t 2)⟩,
  ⟨(some 17), some (14, true), .bsl none 23 4 (some 4) [(.t 15), (.t 16)]⟩,
  ⟨(some 18), some (14, true), .call false 13 [(.t 17)]⟩,
  ⟨(some 19), some (14, true), .bld [(.int .i64 0), (.int .i64 0), (.int .i64 0), (.int .i64 0)] [(2, none, (.c (.int .i64 11))), (3, none, (.c (.int .i64 10)))]⟩,
  ⟨(some 20), some (14, true), .eqS false [.i .i64, .i .i64, .i .i64, .i .i64] (.t 18) (.t 19)⟩,
  ⟨(some 21), none, .pick (.t 14) (.t 20) (.c (.bool false))⟩,
  ⟨(some 22), none, .mv false (.t 21)⟩,
  ⟨(some 23), some (22, true), .mv false (.t 3)⟩,
  ⟨(some 24), some (22, true), .len false (.t 23)⟩,
  ⟨(some 25), some (22, true), .bin .eql .i64 (.t 24) (.c (.int .i64 2))⟩,
  ⟨(some 26), none, .pick (.t 22) (.t 25) (.c (.bool false))⟩,
  ⟨(some 27), none, .mv false (.t 26)⟩,
  ⟨(some 28), some (27, true), .mv false (.t 3)⟩,
  ⟨(some 29), some (27, true), .ixs 4 (.t 28) (.c (.int .i64 0))⟩,
  ⟨(some 30), some (27, true), .ld (some 4) (.t 29)⟩,
  ⟨(some 31), some (27, true), .bld [(.int .i64 0), (.int .i64 0), (.int .i64 0), (.int .i64 0)] [(2, none, (.c (.int .i64 4))), (3, none, (.c (.int .i64 1)))]⟩,
  ⟨(some 32), some (27, true), .eqS false [.i .i64, .i .i64, .i .i64, .i .i64] (.t 30) (.t 31)⟩,
  ⟨(some 33), none, .pick (.t 27) (.t 32) (.c (.bool false))⟩,
  ⟨(some 34), none, .mv false (.t 33)⟩,
  ⟨(some 35), some (34, true), .mv false (.t 3)⟩,
  ⟨(some 36), some (34, true), .ixs 4 (.t 35) (.c (.int .i64 1))⟩,
  ⟨(some 37), some (34, true), .ld (some 4) (.t 36)⟩,
  ⟨(some 38), some (34, true), .bld [(.int .i64 0), (.int .i64 0), (.int .i64 0), (.int .i64 0)] [(1, none, (.c (.int .i64 1))), (2, none, (.c (.int .i64 2))), (3, none, (.c (.int .i64 2)))]⟩,
  ⟨(some 39), some (34, true), .eqS false [.i .i64, .i .i64, .i .i64, .i .i64] (.t 37) (.t 38)⟩,
  ⟨(some 40), none, .pick (.t 34) (.t 39) (.c (.bool false))⟩,
  ⟨(some 41), none, .mv false (.t 40)⟩,
  ⟨(some 42), some (41, true), .ld (some 4) (.t 1)⟩,
  ⟨(some 43), some (41, true), .call false 10 [(.t 42)]⟩,
  ⟨(some 44), some (41, true), .bin .eql .i64 (.t 43) (.c (.int .i64 12))⟩,
  ⟨(some 45), none, .pick (.t 41) (.t 44) (.c (.bool false))⟩,
  ⟨(some 46), none, .mv false (.t 45)⟩,
  ⟨(some 47), some (46, true), .bld [(.int .i64 0), (.int .i64 0), (.int .i64 0), (.int .i64 0)] [(2, none, (.c (.int .i64 (-1)))), (3, none, (.c (.int .i64 1)))]⟩,
  ⟨(some 48), some (46, true), .call false 17 [(.t 47)]⟩,
  ⟨(some 49), some (46, true), .bin .eql .i64 (.t 48) (.c (.int .i64 1))⟩,
  ⟨(some 50), none, .pick (.t 46) (.t 49) (.c (.bool false))⟩,
  ⟨(some 0), none, .mv false (.t 50)⟩] (some [0])) (
.ret))))
set_option maxRecDepth 1000000 in
theorem comp_law12_awake : (Try.f9.body.bind fun code => compC Try.prog Try.f9.ntmps code c_law12_awake) = some c_law12_awake.bare := by kernel_rfl
def r_law12_awake : List R := [.t 0]
theorem spo_law12_awake {ds : List D} {d : D} (hn : Nat.ble ds.length 51 = true) (h : run TSpM gtab 0 c_law12_awake (retK r_law12_awake (· = d)) ⟨env0 0 ds, []⟩) : TSp 9 ds d := Sp_of mixed c_law12_awake r_law12_awake (fn := Try.f9) (by kernel_rfl) (by kernel_rfl) comp_law12_awake (by kernel_rfl) hn h
theorem spm_law12_awake {ds : List D} {d : D} {bx bx' : List Ent} (hn : Nat.ble ds.length 51 = true) (h : run TSpM gtab (sizeE bx) c_law12_awake (retG r_law12_awake (fun d1 bx1 => Rt (sizeE bx) bx1 d1 d bx')) ⟨env0 0 ds, bx⟩) : TSpM 9 ds bx d bx' := SpM_of mixed c_law12_awake r_law12_awake (fn := Try.f9) (by kernel_rfl) (by kernel_rfl) comp_law12_awake (by kernel_rfl) hn h
/-- glazier/rect.Area -/
def c_rect_Area : C := .seq (.reg false [
  ⟨(some 1), none, .box true (.t 0)⟩,
  ⟨(some 2), none, .mv false (.c (.int .i64 0))⟩] (some [1])) (
.seq (.reg false [
  ⟨(some 3), none, .ld (some 4) (.t 1)⟩,
  ⟨(some 4), none, .call false 29 [(.t 3)]⟩,
  ⟨none, none, .st (some 4) (.t 1) (.t 4)⟩] (some [1])) (
.seq (.reg false [
  ⟨(some 5), none, .fld 2 (.t 1)⟩,
  ⟨(some 6), none, .ld none (.t 5)⟩,
  ⟨(some 7), none, .fld 3 (.t 1)⟩,
  ⟨(some 8), none, .ld none (.t 7)⟩,
  ⟨(some 9), none, .bin .mul .i64 (.t 6) (.t 8)⟩,
  ⟨(some 2), none, .mv false (.t 9)⟩] (some [2])) (
.ret)))
set_option maxRecDepth 1000000 in
theorem comp_rect_Area : (Try.f10.body.bind fun code => compC Try.prog Try.f10.ntmps code c_rect_Area) = some c_rect_Area.bare := by kernel_rfl
def r_rect_Area : List R := [.t 2]
theorem spo_rect_Area {ds : List D} {d : D} (hn : Nat.ble ds.length 10 = true) (h : run TSpM gtab 0 c_rect_Area (retK r_rect_Area (· = d)) ⟨env0 0 ds, []⟩) : TSp 10 ds d := Sp_of mixed c_rect_Area r_rect_Area (fn := Try.f10) (by kernel_rfl) (by kernel_rfl) comp_rect_Area (by kernel_rfl) hn h
theorem spm_rect_Area {ds : List D} {d : D} {bx bx' : List Ent} (hn : Nat.ble ds.length 10 = true) (h : run TSpM gtab (sizeE bx) c_rect_Area (retG r_rect_Area (fun d1 bx1 => Rt (sizeE bx) bx1 d1 d bx')) ⟨env0 0 ds, bx⟩) : TSpM 10 ds bx d bx' := SpM_of mixed c_rect_Area r_rect_Area (fn := Try.f10) (by kernel_rfl) (by kernel_rfl) comp_rect_Area (by kernel_rfl) hn h
/-- glazier/rect.Cross -/
def c_rect_Cross : C := .seq (.reg false [
  ⟨(some 2), none, .box true (.t 0)⟩,
  ⟨(some 3), none, .box true (.t 1)⟩,
  ⟨(some 4), none, .alloc [(.int .i64 0), (.int .i64 0), (.int .i64 0), (.int .i64 0)]⟩] (some [2, 3, 4])) (
.seq (.seq (.reg false [
  ⟨(some 5), none, .ld (some 4) (.t 2)⟩,
  ⟨(some 6), none, .call false 16 [(.t 5)]⟩,
  ⟨(some 7), none, .mv false (.t 6)⟩,
  ⟨(some 8), some (7, false), .ld (some 4) (.t 3)⟩,
  ⟨(some 9), some (7, false), .call false 16 [(.t 8)]⟩,
  ⟨(some 10), none, .pick (.t 7) (.c (.bool true)) (.t 9)⟩] (some [2, 3, 4, 10])) (
.ite (.t 10) (
  .seq (.reg false [
    ⟨(some 11), none, .bld [(.int .i64 0), (.int .i64 0), (.int .i64 0), (.int .i64 0)] []⟩,
    ⟨none, none, .st (some 4) (.t 4) (.t 11)⟩] (some [4])) (
  .ret)) (
  .skip))) (
.seq (.reg false [
  ⟨(some 12), none, .fld 0 (.t 2)⟩,
  ⟨(some 13), none, .ld none (.t 12)⟩,
  ⟨(some 14), none, .fld 0 (.t 3)⟩,
  ⟨(some 15), none, .ld none (.t 14)⟩,
  ⟨(some 16), none, .mx (.t 13) (.t 15)⟩,
  ⟨(some 17), none, .fld 1 (.t 2)⟩,
  ⟨(some 18), none, .ld none (.t 17)⟩,
  ⟨(some 19), none, .fld 1 (.t 3)⟩,
  ⟨(some 20), none, .ld none (.t 19)⟩,
  ⟨(some 21), none, .mx (.t 18) (.t 20)⟩,
  ⟨(some 22), none, .fld 0 (.t 2)⟩,
  ⟨(some 23), none, .ld none (.t 22)⟩,
  ⟨(some 24), none, .fld 2 (.t 2)⟩,
  ⟨(some 25), none, .ld none (.t 24)⟩,
  ⟨(some 26), none, .bin .add .i64 (.t 23) (.t 25)⟩,
  ⟨(some 27), none, .fld 0 (.t 3)⟩,
  ⟨(some 28), none, .ld none (.t 27)⟩,
  ⟨(some 29), none, .fld 2 (.t 3)⟩,
  ⟨(some 30), none, .ld none (.t 29)⟩,
  ⟨(some 31), none, .bin .add .i64 (.t 28) (.t 30)⟩,
  ⟨(some 32), none, .mn (.t 26) (.t 31)⟩,
  ⟨(some 33), none, .fld 1 (.t 2)⟩,
  ⟨(some 34), none, .ld none (.t 33)⟩,
  ⟨(some 35), none, .fld 3 (.t 2)⟩,
  ⟨(some 36), none, .ld none (.t 35)⟩,
  ⟨(some 37), none, .bin .add .i64 (.t 34) (.t 36)⟩,
  ⟨(some 38), none, .fld 1 (.t 3)⟩,
  ⟨(some 39), none, .ld none (.t 38)⟩,
  ⟨(some 40), none, .fld 3 (.t 3)⟩,
  ⟨(some 41), none, .ld none (.t 40)⟩,
  ⟨(some 42), none, .bin .add .i64 (.t 39) (.t 41)⟩,
  ⟨(some 43), none, .mn (.t 37) (.t 42)⟩,
  ⟨(some 44), none, .call false 30 [(.t 16), (.t 21), (.t 32), (.t 43)]⟩,
  ⟨none, none, .st (some 4) (.t 4) (.t 44)⟩] (some [4])) (
.ret)))
set_option maxRecDepth 1000000 in
theorem comp_rect_Cross : (Try.f11.body.bind fun code => compC Try.prog Try.f11.ntmps code c_rect_Cross) = some c_rect_Cross.bare := by kernel_rfl
def r_rect_Cross : List R := [.cell 4 (some 4)]
theorem spo_rect_Cross {ds : List D} {d : D} (hn : Nat.ble ds.length 45 = true) (h : run TSpM gtab 0 c_rect_Cross (retK r_rect_Cross (· = d)) ⟨env0 0 ds, []⟩) : TSp 11 ds d := Sp_of mixed c_rect_Cross r_rect_Cross (fn := Try.f11) (by kernel_rfl) (by kernel_rfl) comp_rect_Cross (by kernel_rfl) hn h
theorem spm_rect_Cross {ds : List D} {d : D} {bx bx' : List Ent} (hn : Nat.ble ds.length 45 = true) (h : run TSpM gtab (sizeE bx) c_rect_Cross (retG r_rect_Cross (fun d1 bx1 => Rt (sizeE bx) bx1 d1 d bx')) ⟨env0 0 ds, bx⟩) : TSpM 11 ds bx d bx' := SpM_of mixed c_rect_Cross r_rect_Cross (fn := Try.f11) (by kernel_rfl) (by kernel_rfl) comp_rect_Cross (by kernel_rfl) hn h
/-- glazier/rect.Minus -/
def c_rect_Minus : C := .seq (.reg false [
  ⟨(some 2), none, .box true (.t 0)⟩,
  ⟨(some 3), none, .box true (.t 1)⟩,
  ⟨(some 4), none, .nilS 23 4⟩] (some [2, 3])) (
.seq (.seq (.reg false [
  ⟨(some 9), none, .ld (some 4) (.t 2)⟩,
  ⟨(some 10), none, .call false 16 [(.t 9)]⟩] (some [2, 3, 10])) (
.ite (.t 10) (
  .seq (.reg false [
    ⟨(some 4), none, .nilS 23 4⟩] (some [4])) (
  .ret)) (
  .skip))) (
.seq (.reg false [
  ⟨(some 11), none, .ld (some 4) (.t 2)⟩,
  ⟨(some 12), none, .ld (some 4) (.t 3)⟩,
  ⟨(some 13), none, .call false 11 [(.t 11), (.t 12)]⟩,
  ⟨(some 5), none, .alloc [(.int .i64 0), (.int .i64 0), (.int .i64 0), (.int .i64 0)]⟩,
  ⟨none, none, .st (some 4) (.t 5) (.t 13)⟩] (some [2, 5])) (
.seq (.seq (.reg false [
  ⟨(some 14), none, .ld (some 4) (.t 5)⟩,
  ⟨(some 15), none, .call false 16 [(.t 14)]⟩] (some [2, 5, 15])) (
.ite (.t 15) (
  .seq (.reg false [
    ⟨(some 16), none, .ld (some 4) (.t 2)⟩,
    ⟨(some 17), none, .bsl none 23 4 (some 4) [(.t 16)]⟩,
    ⟨(some 4), none, .mv false (.t 17)⟩] (some [4])) (
  .ret)) (
  .skip))) (
.seq (.reg false [
  ⟨(some 6), none, .nilS 23 4⟩] (some [2, 5, 6])) (
.seq (.seq (.reg true [
  ⟨(some 18), none, .fld 0 (.t 2)⟩,
  ⟨(some 19), none, .ld none (.t 18)⟩,
  ⟨(some 20), none, .fld 1 (.t 2)⟩,
  ⟨(some 21), none, .ld none (.t 20)⟩,
  ⟨(some 22), none, .fld 0 (.t 2)⟩,
  ⟨(some 23), none, .ld none (.t 22)⟩,
  ⟨(some 24), none, .fld 2 (.t 2)⟩,
  ⟨(some 25), none, .ld none (.t 24)⟩,
  ⟨(some 26), none, .bin .add .i64 (.t 23) (.t 25)⟩,
  ⟨(some 27), none, .fld 1 (.t 5)⟩,
  ⟨(some 28), none, .ld none (.t 27)⟩,
  ⟨(some 29), none, .call false 30 [(.t 19), (.t 21), (.t 26), (.t 28)]⟩,
  ⟨(some 30), none, .fld 0 (.t 2)⟩,
  ⟨(some 31), none, .ld none (.t 30)⟩,
  ⟨(some 32), none, .fld 1 (.t 5)⟩,
  ⟨(some 33), none, .ld none (.t 32)⟩,
  ⟨(some 34), none, .fld 0 (.t 5)⟩,
  ⟨(some 35), none, .ld none (.t 34)⟩,
  ⟨(some 36), none, .fld 1 (.t 5)⟩,
  ⟨(some 37), none, .ld none (.t 36)⟩,
  ⟨(some 38), none, .fld 3 (.t 5)⟩,
  ⟨(some 39), none, .ld none (.t 38)⟩,
  ⟨(some 40), none, .bin .add .i64 (.t 37) (.t 39)⟩,
  ⟨(some 41), none, .call false 30 [(.t 31), (.t 33), (.t 35), (.t 40)]⟩,
  ⟨(some 42), none, .fld 0 (.t 5)⟩,
  ⟨(some 43), none, .ld none (.t 42)⟩,
  ⟨(some 44), none, .fld 2 (.t 5)⟩,
  ⟨(some 45), none, .ld none (.t 44)⟩,
  ⟨(some 46), none, .bin .add .i64 (.t 43) (.t 45)⟩,
  ⟨(some 47), none, .fld 1 (.t 5)⟩,
  ⟨(some 48), none, .ld none (.t 47)⟩,
  ⟨(some 49), none, .fld 0 (.t 2)⟩,
  ⟨(some 50), none, .ld none (.t 49)⟩,
  ⟨(some 51), none, .fld 2 (.t 2)⟩,
  ⟨(some 52), none, .ld none (.t 51)⟩,
  ⟨(some 53), none, .bin .add .i64 (.t 50) (.t 52)⟩,
  ⟨(some 54), none, .fld 1 (.t 5)⟩,
  ⟨(some 55), none, .ld none (.t 54)⟩,
  ⟨(some 56), none, .fld 3 (.t 5)⟩,
  ⟨(some 57), none, .ld none (.t 56)⟩,
  ⟨(some 58), none, .bin .add .i64 (.t 55) (.t 57)⟩,
  ⟨(some 59), none, .call false 30 [(.t 46), (.t 48), (.t 53), (.t 58)]⟩,
  ⟨(some 60), none, .fld 0 (.t 2)⟩,
  ⟨(some 61), none, .ld none (.t 60)⟩,
  ⟨(some 62), none, .fld 1 (.t 5)⟩,
  ⟨(some 63), none, .ld none (.t 62)⟩,
  ⟨(some 64), none, .fld 3 (.t 5)⟩,
  ⟨(some 65), none, .ld none (.t 64)⟩,
  ⟨(some 66), none, .bin .add .i64 (.t 63) (.t 65)⟩,
  ⟨(some 67), none, .fld 0 (.t 2)⟩,
  ⟨(some 68), none, .ld none (.t 67)⟩,
  ⟨(some 69), none, .fld 2 (.t 2)⟩,
  ⟨(some 70), none, .ld none (.t 69)⟩,
  ⟨(some 71), none, .bin .add .i64 (.t 68) (.t 70)⟩,
  ⟨(some 72), none, .fld 1 (.t 2)⟩,
  ⟨(some 73), none, .ld none (.t 72)⟩,
  ⟨(some 74), none, .fld 3 (.t 2)⟩,
  ⟨(some 75), none, .ld none (.t 74)⟩,
  ⟨(some 76), none, .bin .add .i64 (.t 73) (.t 75)⟩,
  ⟨(some 77), none, .call false 30 [(.t 61), (.t 66), (.t 71), (.t 76)]⟩,
  ⟨(some 78), none, .bld [(.int .i64 0), (.int .i64 0), (.int .i64 0), (.int .i64 0), (.int .i64 0), (.int .i64 0), (.int .i64 0), (.int .i64 0), (.int .i64 0), (.int .i64 0), (.int .i64 0), (.int .i64 0), (.int .i64 0), (.int .i64 0), (.int .i64 0), (.int .i64 0)] [(0, (some 4), (.t 29)), (4, (some 4), (.t 41)), (8, (some 4), (.t 59)), (12, (some 4), (.t 77))]⟩,
  ⟨(some 79), none, .mv false (.c (.int .i64 0))⟩] (some [6, 78, 79])) (
.blk 0 (
  .loop (
    .seq (.reg false [
      ⟨(some 80), none, .bin .lss .i64 (.t 79) (.c (.int .i64 4))⟩] (some [6, 78, 79, 80])) (
    .seq (.ite (.t 80) (
      .skip) (
      .exit 0)) (
    .seq (.blk 1 (
      .seq (.reg false [
        ⟨(some 81), none, .ixv 4 4 (some 4) (.t 78) (.t 79)⟩,
        ⟨(some 8), none, .alloc [(.int .i64 0), (.int .i64 0), (.int .i64 0), (.int .i64 0)]⟩,
        ⟨none, none, .st (some 4) (.t 8) (.t 81)⟩] (some [6, 8, 78, 79])) (
      .seq (.reg false [
        ⟨(some 82), none, .ld (some 4) (.t 8)⟩,
        ⟨(some 83), none, .call false 16 [(.t 82)]⟩,
        ⟨(some 84), none, .not (.t 83)⟩] (some [6, 8, 78, 79, 84])) (
      .ite (.t 84) (
        .reg false [
          ⟨(some 85), none, .mv false (.t 6)⟩,
          ⟨(some 86), none, .ld (some 4) (.t 8)⟩,
          ⟨(some 87), none, .bsl none 23 4 (some 4) [(.t 86)]⟩,
          ⟨(some 88), none, .app 23 4 32 (.t 85) (.t 87)⟩,
          ⟨(some 6), none, .mv false (.t 88)⟩] (some [6, 78, 79])) (
        .skip))))) (
    .reg false [
      ⟨(some 89), none, .bin .add .i64 (.t 79) (.c (.int .i64 1))⟩,
      ⟨(some 79), none, .mv false (.t 89)⟩] (some [6, 78, 79])))))))) (
.seq (.reg false [
  ⟨(some 90), none, .mv false (.t 6)⟩,
  ⟨(some 4), none, .mv false (.t 90)⟩] (some [4])) (
.ret)))))))
set_option maxRecDepth 1000000 in
theorem comp_rect_Minus : (Try.f12.body.bind fun code => compC Try.prog Try.f12.ntmps code c_rect_Minus) = some c_rect_Minus.bare := by kernel_rfl
def r_rect_Minus : List R := [.t 4]
theorem spo_rect_Minus {ds : List D} {d : D} (hn : Nat.ble ds.length 91 = true) (h : run TSpM gtab 0 c_rect_Minus (retK r_rect_Minus (· = d)) ⟨env0 0 ds, []⟩) : TSp 12 ds d := Sp_of mixed c_rect_Minus r_rect_Minus (fn := Try.f12) (by kernel_rfl) (by kernel_rfl) comp_rect_Minus (by kernel_rfl) hn h
theorem spm_rect_Minus {ds : List D} {d : D} {bx bx' : List Ent} (hn : Nat.ble ds.length 91 = true) (h : run TSpM gtab (sizeE bx) c_rect_Minus (retG r_rect_Minus (fun d1 bx1 => Rt (sizeE bx) bx1 d1 d bx')) ⟨env0 0 ds, bx⟩) : TSpM 12 ds bx d bx' := SpM_of mixed c_rect_Minus r_rect_Minus (fn := Try.f12) (by kernel_rfl) (by kernel_rfl) comp_rect_Minus (by kernel_rfl) hn h
/-- glazier/rect.Box -/
def c_rect_Box : C := .seq (.reg false [
  ⟨(some 2), none, .alloc [(.int .i64 0), (.int .i64 0), (.int .i64 0), (.int .i64 0)]⟩] (some [0, 2])) (
.seq (.reg false [
  ⟨(some 3), none, .alloc [(.int .i64 0), (.int .i64 0), (.int .i64 0), (.int .i64 0)]⟩] (some [0, 2, 3])) (
.seq (.seq (.reg false [
  ⟨(some 6), none, .mv false (.t 0)⟩,
  ⟨(some 7), none, .len false (.t 6)⟩,
  ⟨(some 8), none, .mv false (.c (.int .i64 0))⟩] (some [2, 3, 6, 7, 8])) (
.blk 0 (
  .loop (
    .seq (.reg false [
      ⟨(some 9), none, .bin .lss .i64 (.t 8) (.t 7)⟩] (some [2, 3, 6, 7, 8, 9])) (
    .seq (.ite (.t 9) (
      .skip) (
      .exit 0)) (
    .seq (.blk 1 (
      .seq (.reg false [
        ⟨(some 10), none, .ixs 4 (.t 6) (.t 8)⟩,
        ⟨(some 11), none, .ld (some 4) (.t 10)⟩,
        ⟨(some 5), none, .alloc [(.int .i64 0), (.int .i64 0), (.int .i64 0), (.int .i64 0)]⟩,
        ⟨none, none, .st (some 4) (.t 5) (.t 11)⟩] (some [2, 3, 5, 6, 7, 8])) (
      .blk 2 (
        .seq (.reg false [
          ⟨(some 46), none, .ld (some 4) (.t 5)⟩,
          ⟨(some 47), none, .call false 16 [(.t 46)]⟩,
          ⟨(some 45), none, .mv false (.t 47)⟩] (some [2, 3, 5, 6, 7, 8, 45])) (
        .ite (.t 45) (
          .skip) (
          .seq (.reg false [
            ⟨(some 49), none, .ld (some 4) (.t 3)⟩,
            ⟨(some 50), none, .bld [(.int .i64 0), (.int .i64 0), (.int .i64 0), (.int .i64 0)] []⟩,
            ⟨(some 51), none, .eqS false [.i .i64, .i .i64, .i .i64, .i .i64] (.t 49) (.t 50)⟩,
            ⟨(some 48), none, .mv false (.t 51)⟩] (some [2, 3, 5, 6, 7, 8, 48])) (
          .ite (.t 48) (
            .reg false [
              ⟨(some 52), none, .ld (some 4) (.t 5)⟩,
              ⟨none, none, .st (some 4) (.t 3) (.t 52)⟩] (some [2, 3, 6, 7, 8])) (
            .reg false [
              ⟨(some 12), none, .fld 0 (.t 3)⟩,
              ⟨(some 13), none, .ld none (.t 12)⟩,
              ⟨(some 14), none, .fld 0 (.t 5)⟩,
              ⟨(some 15), none, .ld none (.t 14)⟩,
              ⟨(some 16), none, .mn (.t 13) (.t 15)⟩,
              ⟨(some 17), none, .fld 1 (.t 3)⟩,
              ⟨(some 18), none, .ld none (.t 17)⟩,
              ⟨(some 19), none, .fld 1 (.t 5)⟩,
              ⟨(some 20), none, .ld none (.t 19)⟩,
              ⟨(some 21), none, .mn (.t 18) (.t 20)⟩,
              ⟨(some 22), none, .fld 0 (.t 3)⟩,
              ⟨(some 23), none, .ld none (.t 22)⟩,
              ⟨(some 24), none, .fld 2 (.t 3)⟩,
              ⟨(some 25), none, .ld none (.t 24)⟩,
              ⟨(some 26), none, .bin .add .i64 (.t 23) (.t 25)⟩,
              ⟨(some 27), none, .fld 0 (.t 5)⟩,
              ⟨(some 28), none, .ld none (.t 27)⟩,
              ⟨(some 29), none, .fld 2 (.t 5)⟩,
              ⟨(some 30), none, .ld none (.t 29)⟩,
              ⟨(some 31), none, .bin .add .i64 (.t 28) (.t 30)⟩,
              ⟨(some 32), none, .mx (.t 26) (.t 31)⟩,
              ⟨(some 33), none, .fld 1 (.t 3)⟩,
              ⟨(some 34), none, .ld none (.t 33)⟩,
              ⟨(some 35), none, .fld 3 (.t 3)⟩,
              ⟨(some 36), none, .ld none (.t 35)⟩,
              ⟨(some 37), none, .bin .add .i64 (.t 34) (.t 36)⟩,
              ⟨(some 38), none, .fld 1 (.t 5)⟩,
              ⟨(some 39), none, .ld none (.t 38)⟩,
              ⟨(some 40), none, .fld 3 (.t 5)⟩,
              ⟨(some 41), none, .ld none (.t 40)⟩,
              ⟨(some 42), none, .bin .add .i64 (.t 39) (.t 41)⟩,
              ⟨(some 43), none, .mx (.t 37) (.t 42)⟩,
              ⟨(some 44), none, .call false 30 [(.t 16), (.t 21), (.t 32), (.t 43)]⟩,
              ⟨none, none, .st (some 4) (.t 3) (.t 44)⟩] (some [2, 3, 6, 7, 8]))))))))) (
    .reg false [
      ⟨(some 53), none, .bin .add .i64 (.t 8) (.c (.int .i64 1))⟩,
      ⟨(some 8), none, .mv false (.t 53)⟩] (some [2, 3, 6, 7, 8])))))))) (
.seq (.reg false [
  ⟨(some 54), none, .ld (some 4) (.t 3)⟩,
  ⟨none, none, .st (some 4) (.t 2) (.t 54)⟩] (some [2])) (
.ret))))
set_option maxRecDepth 1000000 in
theorem comp_rect_Box : (Try.f13.body.bind fun code => compC Try.prog Try.f13.ntmps code c_rect_Box) = some c_rect_Box.bare := by kernel_rfl
def r_rect_Box : List R := [.cell 2 (some 4)]
theorem spo_rect_Box {ds : List D} {d : D} (hn : Nat.ble ds.length 55 = true) (h : run TSpM gtab 0 c_rect_Box (retK r_rect_Box (· = d)) ⟨env0 0 ds, []⟩) : TSp 13 ds d := Sp_of mixed c_rect_Box r_rect_Box (fn := Try.f13) (by kernel_rfl) (by kernel_rfl) comp_rect_Box (by kernel_rfl) hn h
theorem spm_rect_Box {ds : List D} {d : D} {bx bx' : List Ent} (hn : Nat.ble ds.length 55 = true) (h : run TSpM gtab (sizeE bx) c_rect_Box (retG r_rect_Box (fun d1 bx1 => Rt (sizeE bx) bx1 d1 d bx')) ⟨env0 0 ds, bx⟩) : TSpM 13 ds bx d bx' := SpM_of mixed c_rect_Box r_rect_Box (fn := Try.f13) (by kernel_rfl) (by kernel_rfl) comp_rect_Box (by kernel_rfl) hn h
/-- glazier/rect.Holds -/
def c_rect_Holds : C := .seq (.reg false [
  ⟨(some 2), none, .box true (.t 0)⟩,
  ⟨(some 3), none, .box true (.t 1)⟩,
  ⟨(some 4), none, .mv false (.c (.bool false))⟩] (some [2, 3])) (
.seq (.reg true [
  ⟨(some 5), none, .ld (some 4) (.t 3)⟩,
  ⟨(some 6), none, .call false 16 [(.t 5)]⟩,
  ⟨(some 7), none, .mv false (.t 6)⟩,
  ⟨(some 8), some (7, false), .ld (some 4) (.t 2)⟩,
  ⟨(some 9), some (7, false), .ld (some 4) (.t 3)⟩,
  ⟨(some 10), some (7, false), .call false 11 [(.t 8), (.t 9)]⟩,
  ⟨(some 11), some (7, false), .ld (some 4) (.t 3)⟩,
  ⟨(some 12), some (7, false), .eqS false [.i .i64, .i .i64, .i .i64, .i .i64] (.t 10) (.t 11)⟩,
  ⟨(some 13), none, .pick (.t 7) (.c (.bool true)) (.t 12)⟩,
  ⟨(some 4), none, .mv false (.t 13)⟩] (some [4])) (
.ret))
set_option maxRecDepth 1000000 in
theorem comp_rect_Holds : (Try.f14.body.bind fun code => compC Try.prog Try.f14.ntmps code c_rect_Holds) = some c_rect_Holds.bare := by kernel_rfl
def r_rect_Holds : List R := [.t 4]
theorem spo_rect_Holds {ds : List D} {d : D} (hn : Nat.ble ds.length 14 = true) (h : run TSpM gtab 0 c_rect_Holds (retK r_rect_Holds (· = d)) ⟨env0 0 ds, []⟩) : TSp 14 ds d := Sp_of mixed c_rect_Holds r_rect_Holds (fn := Try.f14) (by kernel_rfl) (by kernel_rfl) comp_rect_Holds (by kernel_rfl) hn h
theorem spm_rect_Holds {ds : List D} {d : D} {bx bx' : List Ent} (hn : Nat.ble ds.length 14 = true) (h : run TSpM gtab (sizeE bx) c_rect_Holds (retG r_rect_Holds (fun d1 bx1 => Rt (sizeE bx) bx1 d1 d bx')) ⟨env0 0 ds, bx⟩) : TSpM 14 ds bx d bx' := SpM_of mixed c_rect_Holds r_rect_Holds (fn := Try.f14) (by kernel_rfl) (by kernel_rfl) comp_rect_Holds (by kernel_rfl) hn h
/-- glazier/rect.Has -/
def c_rect_Has : C := .seq (.reg false [
  ⟨(some 3), none, .box true (.t 0)⟩,
  ⟨(some 6), none, .mv false (.c (.bool false))⟩] (some [1, 2, 3])) (
.seq (.reg false [
  ⟨(some 7), none, .ld (some 4) (.t 3)⟩,
  ⟨(some 8), none, .call false 29 [(.t 7)]⟩,
  ⟨none, none, .st (some 4) (.t 3) (.t 8)⟩] (some [1, 2, 3])) (
.seq (.reg false [
  ⟨(some 9), none, .fld 0 (.t 3)⟩,
  ⟨(some 10), none, .ld none (.t 9)⟩,
  ⟨(some 11), none, .mv false (.t 1)⟩,
  ⟨(some 12), none, .bin .leq .i64 (.t 10) (.t 11)⟩,
  ⟨(some 13), none, .mv false (.t 12)⟩,
  ⟨(some 14), some (13, true), .mv false (.t 1)⟩,
  ⟨(some 15), some (13, true), .fld 0 (.t 3)⟩,
  ⟨(some 16), some (13, true), .ld none (.t 15)⟩,
  ⟨(some 17), some (13, true), .fld 2 (.t 3)⟩,
  ⟨(some 18), some (13, true), .ld none (.t 17)⟩,
  ⟨(some 19), some (13, true), .bin .add .i64 (.t 16) (.t 18)⟩,
  ⟨(some 20), some (13, true), .bin .lss .i64 (.t 14) (.t 19)⟩,
  ⟨(some 21), none, .pick (.t 13) (.t 20) (.c (.bool false))⟩,
  ⟨(some 22), none, .mv false (.t 21)⟩,
  ⟨(some 23), some (22, true), .fld 1 (.t 3)⟩,
  ⟨(some 24), some (22, true), .ld none (.t 23)⟩,
  ⟨(some 25), some (22, true), .mv false (.t 2)⟩,
  ⟨(some 26), some (22, true), .bin .leq .i64 (.t 24) (.t 25)⟩,
  ⟨(some 27), none, .pick (.t 22) (.t 26) (.c (.bool false))⟩,
  ⟨(some 28), none, .mv false (.t 27)⟩,
  ⟨(some 29), some (28, true), .mv false (.t 2)⟩,
  ⟨(some 30), some (28, true), .fld 1 (.t 3)⟩,
  ⟨(some 31), some (28, true), .ld none (.t 30)⟩,
  ⟨(some 32), some (28, true), .fld 3 (.t 3)⟩,
  ⟨(some 33), some (28, true), .ld none (.t 32)⟩,
  ⟨(some 34), some (28, true), .bin .add .i64 (.t 31) (.t 33)⟩,
  ⟨(some 35), some (28, true), .bin .lss .i64 (.t 29) (.t 34)⟩,
  ⟨(some 36), none, .pick (.t 28) (.t 35) (.c (.bool false))⟩,
  ⟨(some 6), none, .mv false (.t 36)⟩] (some [6])) (
.ret)))
set_option maxRecDepth 1000000 in
theorem comp_rect_Has : (Try.f15.body.bind fun code => compC Try.prog Try.f15.ntmps code c_rect_Has) = some c_rect_Has.bare := by kernel_rfl
def r_rect_Has : List R := [.t 6]
theorem spo_rect_Has {ds : List D} {d : D} (hn : Nat.ble ds.length 37 = true) (h : run TSpM gtab 0 c_rect_Has (retK r_rect_Has (· = d)) ⟨env0 0 ds, []⟩) : TSp 15 ds d := Sp_of mixed c_rect_Has r_rect_Has (fn := Try.f15) (by kernel_rfl) (by kernel_rfl) comp_rect_Has (by kernel_rfl) hn h
theorem spm_rect_Has {ds : List D} {d : D} {bx bx' : List Ent} (hn : Nat.ble ds.length 37 = true) (h : run TSpM gtab (sizeE bx) c_rect_Has (retG r_rect_Has (fun d1 bx1 => Rt (sizeE bx) bx1 d1 d bx')) ⟨env0 0 ds, bx⟩) : TSpM 15 ds bx d bx' := SpM_of mixed c_rect_Has r_rect_Has (fn := Try.f15) (by kernel_rfl) (by kernel_rfl) comp_rect_Has (by kernel_rfl) hn h
/-- glazier/rect.Empty -/
def c_rect_Empty : C := .seq (.reg false [
  ⟨(some 1), none, .box true (.t 0)⟩,
  ⟨(some 2), none, .mv false (.c (.bool false))⟩] (some [1])) (
.seq (.reg false [
  ⟨(some 3), none, .ld (some 4) (.t 1)⟩,
  ⟨(some 4), none, .call false 29 [(.t 3)]⟩,
  ⟨(some 5), none, .bld [(.int .i64 0), (.int .i64 0), (.int .i64 0), (.int .i64 0)] []⟩,
  ⟨(some 6), none, .eqS false [.i .i64, .i .i64, .i .i64, .i .i64] (.t 4) (.t 5)⟩,
  ⟨(some 2), none, .mv false (.t 6)⟩] (some [2])) (
.ret))
set_option maxRecDepth 1000000 in
theorem comp_rect_Empty : (Try.f16.body.bind fun code => compC Try.prog Try.f16.ntmps code c_rect_Empty) = some c_rect_Empty.bare := by kernel_rfl
def r_rect_Empty : List R := [.t 2]
theorem spo_rect_Empty {ds : List D} {d : D} (hn : Nat.ble ds.length 7 = true) (h : run TSpM gtab 0 c_rect_Empty (retK r_rect_Empty (· = d)) ⟨env0 0 ds, []⟩) : TSp 16 ds d := Sp_of mixed c_rect_Empty r_rect_Empty (fn := Try.f16) (by kernel_rfl) (by kernel_rfl) comp_rect_Empty (by kernel_rfl) hn h
theorem spm_rect_Empty {ds : List D} {d : D} {bx bx' : List Ent} (hn : Nat.ble ds.length 7 = true) (h : run TSpM gtab (sizeE bx) c_rect_Empty (retG r_rect_Empty (fun d1 bx1 => Rt (sizeE bx) bx1 d1 d bx')) ⟨env0 0 ds, bx⟩) : TSpM 16 ds bx d bx' := SpM_of mixed c_rect_Empty r_rect_Empty (fn := Try.f16) (by kernel_rfl) (by kernel_rfl) comp_rect_Empty (by kernel_rfl) hn h
/-- glazier/rect.Check -/
def c_rect_Check : C := .seq (.reg false [
  ⟨(some 1), none, .box true (.t 0)⟩,
  ⟨(some 2), none, .mv false (.c (.int .i64 0))⟩] (some [1])) (
.seq (.seq (.reg false [
  ⟨(some 3), none, .ld (some 4) (.t 1)⟩,
  ⟨(some 4), none, .bld [(.int .i64 0), (.int .i64 0), (.int .i64 0), (.int .i64 0)] []⟩,
  ⟨(some 5), none, .eqS false [.i .i64, .i .i64, .i .i64, .i .i64] (.t 3) (.t 4)⟩,
  ⟨(some 6), none, .mv false (.t 5)⟩,
  ⟨(some 7), some (6, false), .fld 0 (.t 1)⟩,
  ⟨(some 8), some (6, false), .ld none (.t 7)⟩,
  ⟨(some 9), some (6, false), .fld 2 (.t 1)⟩,
  ⟨(some 10), some (6, false), .ld none (.t 9)⟩,
  ⟨(some 11), some (6, false), .call false 31 [(.t 8), (.t 10)]⟩,
  ⟨(some 12), some (6, false), .mv false (.t 11)⟩,
  ⟨(some 13), some (12, true), .fld 1 (.t 1)⟩,
  ⟨(some 14), some (12, true), .ld none (.t 13)⟩,
  ⟨(some 15), some (12, true), .fld 3 (.t 1)⟩,
  ⟨(some 16), some (12, true), .ld none (.t 15)⟩,
  ⟨(some 17), some (12, true), .call false 31 [(.t 14), (.t 16)]⟩,
  ⟨(some 18), some (6, false), .pick (.t 12) (.t 17) (.c (.bool false))⟩,
  ⟨(some 19), none, .pick (.t 6) (.c (.bool true)) (.t 18)⟩] (some [19])) (
.ite (.t 19) (
  .seq (.reg false [
    ⟨(some 2), none, .mv false (.c (.int .i64 0))⟩] (some [2])) (
  .ret)) (
  .skip))) (
.seq (.reg false [
  ⟨(some 2), none, .mv false (.c (.int .i64 1))⟩] (some [2])) (
.ret)))
set_option maxRecDepth 1000000 in
theorem comp_rect_Check : (Try.f17.body.bind fun code => compC Try.prog Try.f17.ntmps code c_rect_Check) = some c_rect_Check.bare := by kernel_rfl
def r_rect_Check : List R := [.t 2]
theorem spo_rect_Check {ds : List D} {d : D} (hn : Nat.ble ds.length 20 = true) (h : run TSpM gtab 0 c_rect_Check (retK r_rect_Check (· = d)) ⟨env0 0 ds, []⟩) : TSp 17 ds d := Sp_of mixed c_rect_Check r_rect_Check (fn := Try.f17) (by kernel_rfl) (by kernel_rfl) comp_rect_Check (by kernel_rfl) hn h
theorem spm_rect_Check {ds : List D} {d : D} {bx bx' : List Ent} (hn : Nat.ble ds.length 20 = true) (h : run TSpM gtab (sizeE bx) c_rect_Check (retG r_rect_Check (fun d1 bx1 => Rt (sizeE bx) bx1 d1 d bx')) ⟨env0 0 ds, bx⟩) : TSpM 17 ds bx d bx' := SpM_of mixed c_rect_Check r_rect_Check (fn := Try.f17) (by kernel_rfl) (by kernel_rfl) comp_rect_Check (by kernel_rfl) hn h
/-- glazier/glazierref12.Right -/
def c_ref12_Right : C := .seq (.reg false [
  ⟨(some 1), none, .box true (.t 0)⟩,
  ⟨(some 2), none, .mv false (.c (.bool false))⟩] (some [1])) (
.seq (.seq (.reg false [
  ⟨(some 3), none, .ld (some 4) (.t 1)⟩,
  ⟨(some 4), none, .bld [(.int .i64 0), (.int .i64 0), (.int .i64 0), (.int .i64 0)] []⟩,
  ⟨(some 5), none, .eqS false [.i .i64, .i .i64, .i .i64, .i .i64] (.t 3) (.t 4)⟩] (some [1, 5])) (
.ite (.t 5) (
  .seq (.reg false [
    ⟨(some 2), none, .mv false (.c (.bool true))⟩] (some [2])) (
  .ret)) (
  .skip))) (
.seq (.reg false [
  ⟨(some 6), none, .fld 2 (.t 1)⟩,
  ⟨(some 7), none, .ld none (.t 6)⟩,
  ⟨(some 8), none, .bin .geq .i64 (.t 7) (.c (.int .i64 1))⟩,
  ⟨(some 9), none, .mv false (.t 8)⟩,
  ⟨(some 10), some (9, true), .fld 3 (.t 1)⟩,
  ⟨(some 11), some (9, true), .ld none (.t 10)⟩,
  ⟨(some 12), some (9, true), .bin .geq .i64 (.t 11) (.c (.int .i64 1))⟩,
  ⟨(some 13), none, .pick (.t 9) (.t 12) (.c (.bool false))⟩,
  ⟨(some 14), none, .mv false (.t 13)⟩,
  ⟨(some 15), some (14, true), .fld 0 (.t 1)⟩,
  ⟨(some 16), some (14, true), .ld none (.t 15)⟩,
  ⟨(some 17), some (14, true), .bin .geq .i64 (.t 16) (.c (.int .i64 (-1048576)))⟩,
  ⟨(some 18), none, .pick (.t 14) (.t 17) (.c (.bool false))⟩,
  ⟨(some 19), none, .mv false (.t 18)⟩,
  ⟨(some 20), some (19, true), .fld 1 (.t 1)⟩,
  ⟨(some 21), some (19, true), .ld none (.t 20)⟩,
  ⟨(some 22), some (19, true), .bin .geq .i64 (.t 21) (.c (.int .i64 (-1048576)))⟩,
  ⟨(some 23), none, .pick (.t 19) (.t 22) (.c (.bool false))⟩,
  ⟨(some 24), none, .mv false (.t 23)⟩,
  ⟨(some 25), some (24, true), .fld 0 (.t 1)⟩,
  ⟨(some 26), some (24, true), .ld none (.t 25)⟩,
  ⟨(some 27), some (24, true), .bin .leq .i64 (.t 26) (.c (.int .i64 1048576))⟩,
  ⟨(some 28), none, .pick (.t 24) (.t 27) (.c (.bool false))⟩,
  ⟨(some 29), none, .mv false (.t 28)⟩,
  ⟨(some 30), some (29, true), .fld 1 (.t 1)⟩,
  ⟨(some 31), some (29, true), .ld none (.t 30)⟩,
  ⟨(some 32), some (29, true), .bin .leq .i64 (.t 31) (.c (.int .i64 1048576))⟩,
  ⟨(some 33), none, .pick (.t 29) (.t 32) (.c (.bool false))⟩,
  ⟨(some 34), none, .mv false (.t 33)⟩,
  ⟨(some 35), some (34, true), .fld 2 (.t 1)⟩,
  ⟨(some 36), some (34, true), .ld none (.t 35)⟩,
  ⟨(some 37), some (34, true), .fld 0 (.t 1)⟩,
  ⟨(some 38), some (34, true), .ld none (.t 37)⟩,
  ⟨(some 39), some (34, true), .bin .sub .i64 (.c (.int .i64 1048576)) (.t 38)⟩,
  ⟨(some 40), some (34, true), .bin .leq .i64 (.t 36) (.t 39)⟩,
  ⟨(some 41), none, .pick (.t 34) (.t 40) (.c (.bool false))⟩,
  ⟨(some 42), none, .mv false (.t 41)⟩,
  ⟨(some 43), some (42, true), .fld 3 (.t 1)⟩,
  ⟨(some 44), some (42, true), .ld none (.t 43)⟩,
  ⟨(some 45), some (42, true), .fld 1 (.t 1)⟩,
  ⟨(some 46), some (42, true), .ld none (.t 45)⟩,
  ⟨(some 47), some (42, true), .bin .sub .i64 (.c (.int .i64 1048576)) (.t 46)⟩,
  ⟨(some 48), some (42, true), .bin .leq .i64 (.t 44) (.t 47)⟩,
  ⟨(some 49), none, .pick (.t 42) (.t 48) (.c (.bool false))⟩,
  ⟨(some 2), none, .mv false (.t 49)⟩] (some [2])) (
.ret)))
set_option maxRecDepth 1000000 in
theorem comp_ref12_Right : (Try.f18.body.bind fun code => compC Try.prog Try.f18.ntmps code c_ref12_Right) = some c_ref12_Right.bare := by kernel_rfl
def r_ref12_Right : List R := [.t 2]
theorem spo_ref12_Right {ds : List D} {d : D} (hn : Nat.ble ds.length 50 = true) (h : run TSpM gtab 0 c_ref12_Right (retK r_ref12_Right (· = d)) ⟨env0 0 ds, []⟩) : TSp 18 ds d := Sp_of mixed c_ref12_Right r_ref12_Right (fn := Try.f18) (by kernel_rfl) (by kernel_rfl) comp_ref12_Right (by kernel_rfl) hn h
theorem spm_ref12_Right {ds : List D} {d : D} {bx bx' : List Ent} (hn : Nat.ble ds.length 50 = true) (h : run TSpM gtab (sizeE bx) c_ref12_Right (retG r_ref12_Right (fun d1 bx1 => Rt (sizeE bx) bx1 d1 d bx')) ⟨env0 0 ds, bx⟩) : TSpM 18 ds bx d bx' := SpM_of mixed c_ref12_Right r_ref12_Right (fn := Try.f18) (by kernel_rfl) (by kernel_rfl) comp_ref12_Right (by kernel_rfl) hn h
/-- glazier/glazierref12.As -/
def c_ref12_As : C := .seq (.reg false [
  ⟨(some 1), none, .box true (.t 0)⟩,
  ⟨(some 2), none, .alloc [(.int .i64 0), (.int .i64 0), (.int .i64 0), (.int .i64 0)]⟩] (some [1, 2])) (
.seq (.seq (.reg false [
  ⟨(some 3), none, .ld (some 4) (.t 1)⟩,
  ⟨(some 4), none, .call false 18 [(.t 3)]⟩,
  ⟨(some 5), none, .not (.t 4)⟩] (some [1, 2, 5])) (
.ite (.t 5) (
  .seq (.reg false [
    ⟨(some 6), none, .bld [(.int .i64 0), (.int .i64 0), (.int .i64 0), (.int .i64 0)] []⟩,
    ⟨none, none, .st (some 4) (.t 2) (.t 6)⟩] (some [2])) (
  .ret)) (
  .skip))) (
.seq (.reg false [
  ⟨(some 7), none, .ld (some 4) (.t 1)⟩,
  ⟨none, none, .st (some 4) (.t 2) (.t 7)⟩] (some [2])) (
.ret)))
set_option maxRecDepth 1000000 in
theorem comp_ref12_As : (Try.f19.body.bind fun code => compC Try.prog Try.f19.ntmps code c_ref12_As) = some c_ref12_As.bare := by kernel_rfl
def r_ref12_As : List R := [.cell 2 (some 4)]
theorem spo_ref12_As {ds : List D} {d : D} (hn : Nat.ble ds.length 8 = true) (h : run TSpM gtab 0 c_ref12_As (retK r_ref12_As (· = d)) ⟨env0 0 ds, []⟩) : TSp 19 ds d := Sp_of mixed c_ref12_As r_ref12_As (fn := Try.f19) (by kernel_rfl) (by kernel_rfl) comp_ref12_As (by kernel_rfl) hn h
theorem spm_ref12_As {ds : List D} {d : D} {bx bx' : List Ent} (hn : Nat.ble ds.length 8 = true) (h : run TSpM gtab (sizeE bx) c_ref12_As (retG r_ref12_As (fun d1 bx1 => Rt (sizeE bx) bx1 d1 d bx')) ⟨env0 0 ds, bx⟩) : TSpM 19 ds bx d bx' := SpM_of mixed c_ref12_As r_ref12_As (fn := Try.f19) (by kernel_rfl) (by kernel_rfl) comp_ref12_As (by kernel_rfl) hn h
/-- glazier/glazierref12.Has -/
def c_ref12_Has : C := .seq (.reg false [
  ⟨(some 3), none, .box true (.t 0)⟩,
  ⟨(some 6), none, .mv false (.c (.bool false))⟩] (some [1, 2, 3])) (
.seq (.reg false [
  ⟨(some 7), none, .ld (some 4) (.t 3)⟩,
  ⟨(some 8), none, .call false 19 [(.t 7)]⟩,
  ⟨none, none, .st (some 4) (.t 3) (.t 8)⟩] (some [1, 2, 3])) (
.seq (.reg false [
  ⟨(some 9), none, .mv false (.t 1)⟩,
  ⟨(some 10), none, .fld 0 (.t 3)⟩,
  ⟨(some 11), none, .ld none (.t 10)⟩,
  ⟨(some 12), none, .bin .geq .i64 (.t 9) (.t 11)⟩,
  ⟨(some 13), none, .mv false (.t 12)⟩,
  ⟨(some 14), some (13, true), .mv false (.t 1)⟩,
  ⟨(some 15), some (13, true), .fld 0 (.t 3)⟩,
  ⟨(some 16), some (13, true), .ld none (.t 15)⟩,
  ⟨(some 17), some (13, true), .fld 2 (.t 3)⟩,
  ⟨(some 18), some (13, true), .ld none (.t 17)⟩,
  ⟨(some 19), some (13, true), .bin .add .i64 (.t 16) (.t 18)⟩,
  ⟨(some 20), some (13, true), .bin .lss .i64 (.t 14) (.t 19)⟩,
  ⟨(some 21), none, .pick (.t 13) (.t 20) (.c (.bool false))⟩,
  ⟨(some 22), none, .mv false (.t 21)⟩,
  ⟨(some 23), some (22, true), .mv false (.t 2)⟩,
  ⟨(some 24), some (22, true), .fld 1 (.t 3)⟩,
  ⟨(some 25), some (22, true), .ld none (.t 24)⟩,
  ⟨(some 26), some (22, true), .bin .geq .i64 (.t 23) (.t 25)⟩,
  ⟨(some 27), none, .pick (.t 22) (.t 26) (.c (.bool false))⟩,
  ⟨(some 28), none, .mv false (.t 27)⟩,
  ⟨(some 29), some (28, true), .mv false (.t 2)⟩,
  ⟨(some 30), some (28, true), .fld 1 (.t 3)⟩,
  ⟨(some 31), some (28, true), .ld none (.t 30)⟩,
  ⟨(some 32), some (28, true), .fld 3 (.t 3)⟩,
  ⟨(some 33), some (28, true), .ld none (.t 32)⟩,
  ⟨(some 34), some (28, true), .bin .add .i64 (.t 31) (.t 33)⟩,
  ⟨(some 35), some (28, true), .bin .lss .i64 (.t 29) (.t 34)⟩,
  ⟨(some 36), none, .pick (.t 28) (.t 35) (.c (.bool false))⟩,
  ⟨(some 6), none, .mv false (.t 36)⟩] (some [6])) (
.ret)))
set_option maxRecDepth 1000000 in
theorem comp_ref12_Has : (Try.f20.body.bind fun code => compC Try.prog Try.f20.ntmps code c_ref12_Has) = some c_ref12_Has.bare := by kernel_rfl
def r_ref12_Has : List R := [.t 6]
theorem spo_ref12_Has {ds : List D} {d : D} (hn : Nat.ble ds.length 37 = true) (h : run TSpM gtab 0 c_ref12_Has (retK r_ref12_Has (· = d)) ⟨env0 0 ds, []⟩) : TSp 20 ds d := Sp_of mixed c_ref12_Has r_ref12_Has (fn := Try.f20) (by kernel_rfl) (by kernel_rfl) comp_ref12_Has (by kernel_rfl) hn h
theorem spm_ref12_Has {ds : List D} {d : D} {bx bx' : List Ent} (hn : Nat.ble ds.length 37 = true) (h : run TSpM gtab (sizeE bx) c_ref12_Has (retG r_ref12_Has (fun d1 bx1 => Rt (sizeE bx) bx1 d1 d bx')) ⟨env0 0 ds, bx⟩) : TSpM 20 ds bx d bx' := SpM_of mixed c_ref12_Has r_ref12_Has (fn := Try.f20) (by kernel_rfl) (by kernel_rfl) comp_ref12_Has (by kernel_rfl) hn h
/-- glazier/glazierref12.Holds -/
def c_ref12_Holds : C := .seq (.reg false [
  ⟨(some 2), none, .box true (.t 0)⟩,
  ⟨(some 3), none, .box true (.t 1)⟩,
  ⟨(some 4), none, .mv false (.c (.bool false))⟩] (some [2, 3])) (
.seq (.reg false [
  ⟨(some 5), none, .ld (some 4) (.t 3)⟩,
  ⟨(some 6), none, .call false 19 [(.t 5)]⟩,
  ⟨none, none, .st (some 4) (.t 3) (.t 6)⟩] (some [2, 3])) (
.seq (.reg true [
  ⟨(some 7), none, .fld 2 (.t 3)⟩,
  ⟨(some 8), none, .ld none (.t 7)⟩,
  ⟨(some 9), none, .bin .eql .i64 (.t 8) (.c (.int .i64 0))⟩,
  ⟨(some 10), none, .mv false (.t 9)⟩,
  ⟨(some 11), some (10, false), .ld (some 4) (.t 2)⟩,
  ⟨(some 12), some (10, false), .ld (some 4) (.t 3)⟩,
  ⟨(some 13), some (10, false), .call false 23 [(.t 11), (.t 12)]⟩,
  ⟨(some 14), some (10, false), .ld (some 4) (.t 3)⟩,
  ⟨(some 15), some (10, false), .eqS false [.i .i64, .i .i64, .i .i64, .i .i64] (.t 13) (.t 14)⟩,
  ⟨(some 16), none, .pick (.t 10) (.c (.bool true)) (.t 15)⟩,
  ⟨(some 4), none, .mv false (.t 16)⟩] (some [4])) (
.ret)))
set_option maxRecDepth 1000000 in
theorem comp_ref12_Holds : (Try.f21.body.bind fun code => compC Try.prog Try.f21.ntmps code c_ref12_Holds) = some c_ref12_Holds.bare := by kernel_rfl
def r_ref12_Holds : List R := [.t 4]
theorem spo_ref12_Holds {ds : List D} {d : D} (hn : Nat.ble ds.length 17 = true) (h : run TSpM gtab 0 c_ref12_Holds (retK r_ref12_Holds (· = d)) ⟨env0 0 ds, []⟩) : TSp 21 ds d := Sp_of mixed c_ref12_Holds r_ref12_Holds (fn := Try.f21) (by kernel_rfl) (by kernel_rfl) comp_ref12_Holds (by kernel_rfl) hn h
theorem spm_ref12_Holds {ds : List D} {d : D} {bx bx' : List Ent} (hn : Nat.ble ds.length 17 = true) (h : run TSpM gtab (sizeE bx) c_ref12_Holds (retG r_ref12_Holds (fun d1 bx1 => Rt (sizeE bx) bx1 d1 d bx')) ⟨env0 0 ds, bx⟩) : TSpM 21 ds bx d bx' := SpM_of mixed c_ref12_Holds r_ref12_Holds (fn := Try.f21) (by kernel_rfl) (by kernel_rfl) comp_ref12_Holds (by kernel_rfl) hn h
/-- glazier/glazierref12.Area -/
def c_ref12_Area : C := .seq (.reg false [
  ⟨(some 1), none, .box true (.t 0)⟩,
  ⟨(some 2), none, .mv false (.c (.int .i64 0))⟩] (some [1])) (
.seq (.reg false [
  ⟨(some 3), none, .ld (some 4) (.t 1)⟩,
  ⟨(some 4), none, .call false 19 [(.t 3)]⟩,
  ⟨none, none, .st (some 4) (.t 1) (.t 4)⟩] (some [1])) (
.seq (.reg false [
  ⟨(some 5), none, .fld 2 (.t 1)⟩,
  ⟨(some 6), none, .ld none (.t 5)⟩,
  ⟨(some 7), none, .fld 3 (.t 1)⟩,
  ⟨(some 8), none, .ld none (.t 7)⟩,
  ⟨(some 9), none, .bin .mul .i64 (.t 6) (.t 8)⟩,
  ⟨(some 2), none, .mv false (.t 9)⟩] (some [2])) (
.ret)))
set_option maxRecDepth 1000000 in
theorem comp_ref12_Area : (Try.f22.body.bind fun code => compC Try.prog Try.f22.ntmps code c_ref12_Area) = some c_ref12_Area.bare := by kernel_rfl
def r_ref12_Area : List R := [.t 2]
theorem spo_ref12_Area {ds : List D} {d : D} (hn : Nat.ble ds.length 10 = true) (h : run TSpM gtab 0 c_ref12_Area (retK r_ref12_Area (· = d)) ⟨env0 0 ds, []⟩) : TSp 22 ds d := Sp_of mixed c_ref12_Area r_ref12_Area (fn := Try.f22) (by kernel_rfl) (by kernel_rfl) comp_ref12_Area (by kernel_rfl) hn h
theorem spm_ref12_Area {ds : List D} {d : D} {bx bx' : List Ent} (hn : Nat.ble ds.length 10 = true) (h : run TSpM gtab (sizeE bx) c_ref12_Area (retG r_ref12_Area (fun d1 bx1 => Rt (sizeE bx) bx1 d1 d bx')) ⟨env0 0 ds, bx⟩) : TSpM 22 ds bx d bx' := SpM_of mixed c_ref12_Area r_ref12_Area (fn := Try.f22) (by kernel_rfl) (by kernel_rfl) comp_ref12_Area (by kernel_rfl) hn h
/-- glazier/glazierref12.Cross -/
def c_ref12_Cross : C := .seq (.reg false [
  ⟨(some 2), none, .box true (.t 0)⟩,
  ⟨(some 3), none, .box true (.t 1)⟩,
  ⟨(some 4), none, .alloc [(.int .i64 0), (.int .i64 0), (.int .i64 0), (.int .i64 0)]⟩] (some [2, 3, 4])) (
.seq (.reg true [
  ⟨(some 5), none, .ld (some 4) (.t 2)⟩,
  ⟨(some 6), none, .call false 19 [(.t 5)]⟩,
  ⟨(some 7), none, .ld (some 4) (.t 3)⟩,
  ⟨(some 8), none, .call false 19 [(.t 7)]⟩,
  ⟨none, none, .st (some 4) (.t 2) (.t 6)⟩,
  ⟨none, none, .st (some 4) (.t 3) (.t 8)⟩] (some [2, 3, 4])) (
.seq (.reg true [
  ⟨(some 9), none, .fld 0 (.t 2)⟩,
  ⟨(some 10), none, .ld none (.t 9)⟩,
  ⟨(some 11), none, .fld 0 (.t 3)⟩,
  ⟨(some 12), none, .ld none (.t 11)⟩,
  ⟨(some 13), none, .call false 33 [(.t 10), (.t 12)]⟩,
  ⟨(some 14), none, .fld 1 (.t 2)⟩,
  ⟨(some 15), none, .ld none (.t 14)⟩,
  ⟨(some 16), none, .fld 1 (.t 3)⟩,
  ⟨(some 17), none, .ld none (.t 16)⟩,
  ⟨(some 18), none, .call false 33 [(.t 15), (.t 17)]⟩,
  ⟨(some 19), none, .fld 0 (.t 2)⟩,
  ⟨(some 20), none, .ld none (.t 19)⟩,
  ⟨(some 21), none, .fld 2 (.t 2)⟩,
  ⟨(some 22), none, .ld none (.t 21)⟩,
  ⟨(some 23), none, .bin .add .i64 (.t 20) (.t 22)⟩,
  ⟨(some 24), none, .fld 0 (.t 3)⟩,
  ⟨(some 25), none, .ld none (.t 24)⟩,
  ⟨(some 26), none, .fld 2 (.t 3)⟩,
  ⟨(some 27), none, .ld none (.t 26)⟩,
  ⟨(some 28), none, .bin .add .i64 (.t 25) (.t 27)⟩,
  ⟨(some 29), none, .call false 34 [(.t 23), (.t 28)]⟩,
  ⟨(some 30), none, .fld 1 (.t 2)⟩,
  ⟨(some 31), none, .ld none (.t 30)⟩,
  ⟨(some 32), none, .fld 3 (.t 2)⟩,
  ⟨(some 33), none, .ld none (.t 32)⟩,
  ⟨(some 34), none, .bin .add .i64 (.t 31) (.t 33)⟩,
  ⟨(some 35), none, .fld 1 (.t 3)⟩,
  ⟨(some 36), none, .ld none (.t 35)⟩,
  ⟨(some 37), none, .fld 3 (.t 3)⟩,
  ⟨(some 38), none, .ld none (.t 37)⟩,
  ⟨(some 39), none, .bin .add .i64 (.t 36) (.t 38)⟩,
  ⟨(some 40), none, .call false 34 [(.t 34), (.t 39)]⟩,
  ⟨(some 41), none, .call false 32 [(.t 13), (.t 18), (.t 29), (.t 40)]⟩,
  ⟨none, none, .st (some 4) (.t 4) (.t 41)⟩] (some [4])) (
.ret)))
set_option maxRecDepth 1000000 in
theorem comp_ref12_Cross : (Try.f23.body.bind fun code => compC Try.prog Try.f23.ntmps code c_ref12_Cross) = some c_ref12_Cross.bare := by kernel_rfl
def r_ref12_Cross : List R := [.cell 4 (some 4)]
theorem spo_ref12_Cross {ds : List D} {d : D} (hn : Nat.ble ds.length 42 = true) (h : run TSpM gtab 0 c_ref12_Cross (retK r_ref12_Cross (· = d)) ⟨env0 0 ds, []⟩) : TSp 23 ds d := Sp_of mixed c_ref12_Cross r_ref12_Cross (fn := Try.f23) (by kernel_rfl) (by kernel_rfl) comp_ref12_Cross (by kernel_rfl) hn h
theorem spm_ref12_Cross {ds : List D} {d : D} {bx bx' : List Ent} (hn : Nat.ble ds.length 42 = true) (h : run TSpM gtab (sizeE bx) c_ref12_Cross (retG r_ref12_Cross (fun d1 bx1 => Rt (sizeE bx) bx1 d1 d bx')) ⟨env0 0 ds, bx⟩) : TSpM 23 ds bx d bx' := SpM_of mixed c_ref12_Cross r_ref12_Cross (fn := Try.f23) (by kernel_rfl) (by kernel_rfl) comp_ref12_Cross (by kernel_rfl) hn h
/-- glazier/glazierref12.Same -/
def c_ref12_Same : C := .seq (.reg false [
  ⟨(some 4), none, .mv false (.c (.bool false))⟩] (some [0, 1])) (
.seq (.seq (.reg false [
  ⟨(some 6), none, .mv false (.t 0)⟩,
  ⟨(some 7), none, .len false (.t 6)⟩,
  ⟨(some 8), none, .mv false (.t 1)⟩,
  ⟨(some 9), none, .len false (.t 8)⟩,
  ⟨(some 10), none, .bin .neq .i64 (.t 7) (.t 9)⟩] (some [0, 1, 10])) (
.ite (.t 10) (
  .seq (.reg false [
    ⟨(some 4), none, .mv false (.c (.bool false))⟩] (some [4])) (
  .ret)) (
  .skip))) (
.seq (.seq (.reg false [
  ⟨(some 5), none, .mv false (.c (.int .i64 0))⟩] (some [0, 1, 5])) (
.blk 0 (
  .loop (
    .seq (.seq (.reg false [
      ⟨(some 11), none, .mv false (.t 5)⟩,
      ⟨(some 12), none, .mv false (.t 0)⟩,
      ⟨(some 13), none, .len false (.t 12)⟩,
      ⟨(some 14), none, .bin .lss .i64 (.t 11) (.t 13)⟩] (some [0, 1, 5, 14])) (
    .ite (.t 14) (
      .skip) (
      .exit 0))) (
    .seq (.blk 1 (
      .seq (.reg true [
        ⟨(some 17), none, .mv false (.t 0)⟩,
        ⟨(some 18), none, .mv false (.t 5)⟩,
        ⟨(some 19), none, .ixs 4 (.t 17) (.t 18)⟩,
        ⟨(some 20), none, .ld (some 4) (.t 19)⟩,
        ⟨(some 21), none, .mv false (.t 1)⟩,
        ⟨(some 22), none, .mv false (.t 5)⟩,
        ⟨(some 23), none, .ixs 4 (.t 21) (.t 22)⟩,
        ⟨(some 24), none, .ld (some 4) (.t 23)⟩,
        ⟨(some 25), none, .eqS true [.i .i64, .i .i64, .i .i64, .i .i64] (.t 20) (.t 24)⟩] (some [0, 1, 5, 25])) (
      .ite (.t 25) (
        .seq (.reg false [
          ⟨(some 4), none, .mv false (.c (.bool false))⟩] (some [4])) (
        .ret)) (
        .skip)))) (
    .reg false [
      ⟨(some 15), none, .mv false (.t 5)⟩,
      ⟨(some 16), none, .bin .add .i64 (.t 15) (.c (.int .i64 1))⟩,
      ⟨(some 5), none, .mv false (.t 16)⟩] (some [0, 1, 5]))))))) (
.seq (.reg false [
  ⟨(some 4), none, .mv false (.c (.bool true))⟩] (some [4])) (
.ret))))
set_option maxRecDepth 1000000 in
theorem comp_ref12_Same : (Try.f24.body.bind fun code => compC Try.prog Try.f24.ntmps code c_ref12_Same) = some c_ref12_Same.bare := by kernel_rfl
def r_ref12_Same : List R := [.t 4]
theorem spo_ref12_Same {ds : List D} {d : D} (hn : Nat.ble ds.length 26 = true) (h : run TSpM gtab 0 c_ref12_Same (retK r_ref12_Same (· = d)) ⟨env0 0 ds, []⟩) : TSp 24 ds d := Sp_of mixed c_ref12_Same r_ref12_Same (fn := Try.f24) (by kernel_rfl) (by kernel_rfl) comp_ref12_Same (by kernel_rfl) hn h
theorem spm_ref12_Same {ds : List D} {d : D} {bx bx' : List Ent} (hn : Nat.ble ds.length 26 = true) (h : run TSpM gtab (sizeE bx) c_ref12_Same (retG r_ref12_Same (fun d1 bx1 => Rt (sizeE bx) bx1 d1 d bx')) ⟨env0 0 ds, bx⟩) : TSpM 24 ds bx d bx' := SpM_of mixed c_ref12_Same r_ref12_Same (fn := Try.f24) (by kernel_rfl) (by kernel_rfl) comp_ref12_Same (by kernel_rfl) hn h
/-- glazier/glazierref12.Minus -/
def c_ref12_Minus : C := .seq (.reg false [
  ⟨(some 2), none, .box true (.t 0)⟩,
  ⟨(some 3), none, .box true (.t 1)⟩,
  ⟨(some 4), none, .nilS 23 4⟩] (some [2, 3])) (
.seq (.reg false [
  ⟨(some 11), none, .ld (some 4) (.t 2)⟩,
  ⟨(some 12), none, .call false 19 [(.t 11)]⟩,
  ⟨none, none, .st (some 4) (.t 2) (.t 12)⟩] (some [2, 3])) (
.seq (.reg false [
  ⟨(some 13), none, .ld (some 4) (.t 2)⟩,
  ⟨(some 14), none, .ld (some 4) (.t 3)⟩,
  ⟨(some 15), none, .call false 23 [(.t 13), (.t 14)]⟩,
  ⟨(some 5), none, .alloc [(.int .i64 0), (.int .i64 0), (.int .i64 0), (.int .i64 0)]⟩,
  ⟨none, none, .st (some 4) (.t 5) (.t 15)⟩] (some [2, 5])) (
.seq (.reg false [
  ⟨(some 16), none, .ld (some 4) (.t 2)⟩,
  ⟨(some 17), none, .bsl none 23 4 (some 4) [(.t 16)]⟩,
  ⟨(some 6), none, .mv false (.t 17)⟩] (some [2, 5, 6])) (
.seq (.seq (.reg false [
  ⟨(some 18), none, .fld 2 (.t 5)⟩,
  ⟨(some 19), none, .ld none (.t 18)⟩,
  ⟨(some 20), none, .bin .gtr .i64 (.t 19) (.c (.int .i64 0))⟩] (some [2, 5, 6, 20])) (
.ite (.t 20) (
  .seq (.reg true [
    ⟨(some 21), none, .fld 0 (.t 2)⟩,
    ⟨(some 22), none, .ld none (.t 21)⟩,
    ⟨(some 23), none, .fld 2 (.t 2)⟩,
    ⟨(some 24), none, .ld none (.t 23)⟩,
    ⟨(some 25), none, .bin .add .i64 (.t 22) (.t 24)⟩,
    ⟨(some 26), none, .fld 1 (.t 2)⟩,
    ⟨(some 27), none, .ld none (.t 26)⟩,
    ⟨(some 28), none, .fld 3 (.t 2)⟩,
    ⟨(some 29), none, .ld none (.t 28)⟩,
    ⟨(some 30), none, .bin .add .i64 (.t 27) (.t 29)⟩,
    ⟨(some 7), none, .mv false (.t 25)⟩,
    ⟨(some 8), none, .mv false (.t 30)⟩] (some [2, 5, 7, 8])) (
  .reg true [
    ⟨(some 31), none, .fld 0 (.t 2)⟩,
    ⟨(some 32), none, .ld none (.t 31)⟩,
    ⟨(some 33), none, .fld 1 (.t 2)⟩,
    ⟨(some 34), none, .ld none (.t 33)⟩,
    ⟨(some 35), none, .mv false (.t 7)⟩,
    ⟨(some 36), none, .fld 1 (.t 5)⟩,
    ⟨(some 37), none, .ld none (.t 36)⟩,
    ⟨(some 38), none, .call false 32 [(.t 32), (.t 34), (.t 35), (.t 37)]⟩,
    ⟨(some 39), none, .fld 0 (.t 2)⟩,
    ⟨(some 40), none, .ld none (.t 39)⟩,
    ⟨(some 41), none, .fld 1 (.t 5)⟩,
    ⟨(some 42), none, .ld none (.t 41)⟩,
    ⟨(some 43), none, .fld 0 (.t 5)⟩,
    ⟨(some 44), none, .ld none (.t 43)⟩,
    ⟨(some 45), none, .fld 1 (.t 5)⟩,
    ⟨(some 46), none, .ld none (.t 45)⟩,
    ⟨(some 47), none, .fld 3 (.t 5)⟩,
    ⟨(some 48), none, .ld none (.t 47)⟩,
    ⟨(some 49), none, .bin .add .i64 (.t 46) (.t 48)⟩,
    ⟨(some 50), none, .call false 32 [(.t 40), (.t 42), (.t 44), (.t 49)]⟩,
    ⟨(some 51), none, .fld 0 (.t 5)⟩,
    ⟨(some 52), none, .ld none (.t 51)⟩,
    ⟨(some 53), none, .fld 2 (.t 5)⟩,
    ⟨(some 54), none, .ld none (.t 53)⟩,
    ⟨(some 55), none, .bin .add .i64 (.t 52) (.t 54)⟩,
    ⟨(some 56), none, .fld 1 (.t 5)⟩,
    ⟨(some 57), none, .ld none (.t 56)⟩,
    ⟨(some 58), none, .mv false (.t 7)⟩,
    ⟨(some 59), none, .fld 1 (.t 5)⟩,
    ⟨(some 60), none, .ld none (.t 59)⟩,
    ⟨(some 61), none, .fld 3 (.t 5)⟩,
    ⟨(some 62), none, .ld none (.t 61)⟩,
    ⟨(some 63), none, .bin .add .i64 (.t 60) (.t 62)⟩,
    ⟨(some 64), none, .call false 32 [(.t 55), (.t 57), (.t 58), (.t 63)]⟩,
    ⟨(some 65), none, .fld 0 (.t 2)⟩,
    ⟨(some 66), none, .ld none (.t 65)⟩,
    ⟨(some 67), none, .fld 1 (.t 5)⟩,
    ⟨(some 68), none, .ld none (.t 67)⟩,
    ⟨(some 69), none, .fld 3 (.t 5)⟩,
    ⟨(some 70), none, .ld none (.t 69)⟩,
    ⟨(some 71), none, .bin .add .i64 (.t 68) (.t 70)⟩,
    ⟨(some 72), none, .mv false (.t 7)⟩,
    ⟨(some 73), none, .mv false (.t 8)⟩,
    ⟨(some 74), none, .call false 32 [(.t 66), (.t 71), (.t 72), (.t 73)]⟩,
    ⟨(some 75), none, .bsl none 23 4 (some 4) [(.t 38), (.t 50), (.t 64), (.t 74)]⟩,
    ⟨(some 6), none, .mv false (.t 75)⟩] (some [6]))) (
  .skip))) (
.seq (.reg false [
  ⟨(some 9), none, .nilS 23 4⟩] (some [6, 9])) (
.seq (.seq (.reg false [
  ⟨(some 10), none, .mv false (.c (.int .i64 0))⟩] (some [6, 9, 10])) (
.blk 0 (
  .loop (
    .seq (.seq (.reg false [
      ⟨(some 76), none, .mv false (.t 10)⟩,
      ⟨(some 77), none, .mv false (.t 6)⟩,
      ⟨(some 78), none, .len false (.t 77)⟩,
      ⟨(some 79), none, .bin .lss .i64 (.t 76) (.t 78)⟩] (some [6, 9, 10, 79])) (
    .ite (.t 79) (
      .skip) (
      .exit 0))) (
    .seq (.blk 1 (
      .seq (.reg false [
        ⟨(some 82), none, .mv false (.t 6)⟩,
        ⟨(some 83), none, .mv false (.t 10)⟩,
        ⟨(some 84), none, .ixs 4 (.t 82) (.t 83)⟩,
        ⟨(some 85), none, .fld 2 (.t 84)⟩,
        ⟨(some 86), none, .ld none (.t 85)⟩,
        ⟨(some 87), none, .bin .gtr .i64 (.t 86) (.c (.int .i64 0))⟩] (some [6, 9, 10, 87])) (
      .ite (.t 87) (
        .reg false [
          ⟨(some 88), none, .mv false (.t 9)⟩,
          ⟨(some 89), none, .mv false (.t 6)⟩,
          ⟨(some 90), none, .mv false (.t 10)⟩,
          ⟨(some 91), none, .ixs 4 (.t 89) (.t 90)⟩,
          ⟨(some 92), none, .ld (some 4) (.t 91)⟩,
          ⟨(some 93), none, .bsl none 23 4 (some 4) [(.t 92)]⟩,
          ⟨(some 94), none, .app 23 4 32 (.t 88) (.t 93)⟩,
          ⟨(some 9), none, .mv false (.t 94)⟩] (some [6, 9, 10])) (
        .skip)))) (
    .reg false [
      ⟨(some 80), none, .mv false (.t 10)⟩,
      ⟨(some 81), none, .bin .add .i64 (.t 80) (.c (.int .i64 1))⟩,
      ⟨(some 10), none, .mv false (.t 81)⟩] (some [6, 9, 10]))))))) (
.seq (.reg false [
  ⟨(some 95), none, .mv false (.t 9)⟩,
  ⟨(some 4), none, .mv false (.t 95)⟩] (some [4])) (
.ret))))))))
set_option maxRecDepth 1000000 in
theorem comp_ref12_Minus : (Try.f25.body.bind fun code => compC Try.prog Try.f25.ntmps code c_ref12_Minus) = some c_ref12_Minus.bare := by kernel_rfl
def r_ref12_Minus : List R := [.t 4]
theorem spo_ref12_Minus {ds : List D} {d : D} (hn : Nat.ble ds.length 96 = true) (h : run TSpM gtab 0 c_ref12_Minus (retK r_ref12_Minus (· = d)) ⟨env0 0 ds, []⟩) : TSp 25 ds d := Sp_of mixed c_ref12_Minus r_ref12_Minus (fn := Try.f25) (by kernel_rfl) (by kernel_rfl) comp_ref12_Minus (by kernel_rfl) hn h
theorem spm_ref12_Minus {ds : List D} {d : D} {bx bx' : List Ent} (hn : Nat.ble ds.length 96 = true) (h : run TSpM gtab (sizeE bx) c_ref12_Minus (retG r_ref12_Minus (fun d1 bx1 => Rt (sizeE bx) bx1 d1 d bx')) ⟨env0 0 ds, bx⟩) : TSpM 25 ds bx d bx' := SpM_of mixed c_ref12_Minus r_ref12_Minus (fn := Try.f25) (by kernel_rfl) (by kernel_rfl) comp_ref12_Minus (by kernel_rfl) hn h
/-- glazier/glazierref12.Box -/
def c_ref12_Box : C := .seq (.reg false [
  ⟨(some 2), none, .alloc [(.int .i64 0), (.int .i64 0), (.int .i64 0), (.int .i64 0)]⟩] (some [0, 2])) (
.seq (.reg false [
  ⟨(some 6), none, .bld [(.int .i64 0), (.int .i64 0), (.int .i64 0), (.int .i64 0)] []⟩,
  ⟨(some 3), none, .alloc [(.int .i64 0), (.int .i64 0), (.int .i64 0), (.int .i64 0)]⟩,
  ⟨none, none, .st (some 4) (.t 3) (.t 6)⟩] (some [0, 2, 3])) (
.seq (.seq (.reg false [
  ⟨(some 4), none, .mv false (.c (.int .i64 0))⟩] (some [0, 2, 3, 4])) (
.blk 0 (
  .loop (
    .seq (.seq (.reg false [
      ⟨(some 7), none, .mv false (.t 4)⟩,
      ⟨(some 8), none, .mv false (.t 0)⟩,
      ⟨(some 9), none, .len false (.t 8)⟩,
      ⟨(some 10), none, .bin .lss .i64 (.t 7) (.t 9)⟩] (some [0, 2, 3, 4, 10])) (
    .ite (.t 10) (
      .skip) (
      .exit 0))) (
    .seq (.blk 1 (
      .seq (.reg false [
        ⟨(some 13), none, .mv false (.t 0)⟩,
        ⟨(some 14), none, .mv false (.t 4)⟩,
        ⟨(some 15), none, .ixs 4 (.t 13) (.t 14)⟩,
        ⟨(some 16), none, .ld (some 4) (.t 15)⟩,
        ⟨(some 17), none, .call false 19 [(.t 16)]⟩,
        ⟨(some 5), none, .alloc [(.int .i64 0), (.int .i64 0), (.int .i64 0), (.int .i64 0)]⟩,
        ⟨none, none, .st (some 4) (.t 5) (.t 17)⟩] (some [0, 2, 3, 4, 5])) (
      .seq (.seq (.reg false [
        ⟨(some 18), none, .fld 2 (.t 5)⟩,
        ⟨(some 19), none, .ld none (.t 18)⟩,
        ⟨(some 20), none, .bin .eql .i64 (.t 19) (.c (.int .i64 0))⟩] (some [0, 2, 3, 4, 5, 20])) (
      .ite (.t 20) (
        .exit 1) (
        .skip))) (
      .seq (.seq (.reg false [
        ⟨(some 21), none, .fld 2 (.t 3)⟩,
        ⟨(some 22), none, .ld none (.t 21)⟩,
        ⟨(some 23), none, .bin .eql .i64 (.t 22) (.c (.int .i64 0))⟩] (some [0, 2, 3, 4, 5, 23])) (
      .ite (.t 23) (
        .seq (.reg false [
          ⟨(some 24), none, .ld (some 4) (.t 5)⟩,
          ⟨none, none, .st (some 4) (.t 3) (.t 24)⟩] (some [0, 2, 3, 4])) (
        .exit 1)) (
        .skip))) (
      .reg true [
        ⟨(some 25), none, .fld 0 (.t 3)⟩,
        ⟨(some 26), none, .ld none (.t 25)⟩,
        ⟨(some 27), none, .fld 0 (.t 5)⟩,
        ⟨(some 28), none, .ld none (.t 27)⟩,
        ⟨(some 29), none, .call false 34 [(.t 26), (.t 28)]⟩,
        ⟨(some 30), none, .fld 1 (.t 3)⟩,
        ⟨(some 31), none, .ld none (.t 30)⟩,
        ⟨(some 32), none, .fld 1 (.t 5)⟩,
        ⟨(some 33), none, .ld none (.t 32)⟩,
        ⟨(some 34), none, .call false 34 [(.t 31), (.t 33)]⟩,
        ⟨(some 35), none, .fld 0 (.t 3)⟩,
        ⟨(some 36), none, .ld none (.t 35)⟩,
        ⟨(some 37), none, .fld 2 (.t 3)⟩,
        ⟨(some 38), none, .ld none (.t 37)⟩,
        ⟨(some 39), none, .bin .add .i64 (.t 36) (.t 38)⟩,
        ⟨(some 40), none, .fld 0 (.t 5)⟩,
        ⟨(some 41), none, .ld none (.t 40)⟩,
        ⟨(some 42), none, .fld 2 (.t 5)⟩,
        ⟨(some 43), none, .ld none (.t 42)⟩,
        ⟨(some 44), none, .bin .add .i64 (.t 41) (.t 43)⟩,
        ⟨(some 45), none, .call false 33 [(.t 39), (.t 44)]⟩,
        ⟨(some 46), none, .fld 1 (.t 3)⟩,
        ⟨(some 47), none, .ld none (.t 46)⟩,
        ⟨(some 48), none, .fld 3 (.t 3)⟩,
        ⟨(some 49), none, .ld none (.t 48)⟩,
        ⟨(some 50), none, .bin .add .i64 (.t 47) (.t 49)⟩,
        ⟨(some 51), none, .fld 1 (.t 5)⟩,
        ⟨(some 52), none, .ld none (.t 51)⟩,
        ⟨(some 53), none, .fld 3 (.t 5)⟩,
        ⟨(some 54), none, .ld none (.t 53)⟩,
        ⟨(some 55), none, .bin .add .i64 (.t 52) (.t 54)⟩,
        ⟨(some 56), none, .call false 33 [(.t 50), (.t 55)]⟩,
        ⟨(some 57), none, .call false 32 [(.t 29), (.t 34), (.t 45), (.t 56)]⟩,
        ⟨none, none, .st (some 4) (.t 3) (.t 57)⟩] (some [0, 2, 3, 4])))))) (
    .reg false [
      ⟨(some 11), none, .mv false (.t 4)⟩,
      ⟨(some 12), none, .bin .add .i64 (.t 11) (.c (.int .i64 1))⟩,
      ⟨(some 4), none, .mv false (.t 12)⟩] (some [0, 2, 3, 4]))))))) (
.seq (.reg false [
  ⟨(some 58), none, .ld (some 4) (.t 3)⟩,
  ⟨none, none, .st (some 4) (.t 2) (.t 58)⟩] (some [2])) (
.ret))))
set_option maxRecDepth 1000000 in
theorem comp_ref12_Box : (Try.f26.body.bind fun code => compC Try.prog Try.f26.ntmps code c_ref12_Box) = some c_ref12_Box.bare := by kernel_rfl
def r_ref12_Box : List R := [.cell 2 (some 4)]
theorem spo_ref12_Box {ds : List D} {d : D} (hn : Nat.ble ds.length 59 = true) (h : run TSpM gtab 0 c_ref12_Box (retK r_ref12_Box (· = d)) ⟨env0 0 ds, []⟩) : TSp 26 ds d := Sp_of mixed c_ref12_Box r_ref12_Box (fn := Try.f26) (by kernel_rfl) (by kernel_rfl) comp_ref12_Box (by kernel_rfl) hn h
theorem spm_ref12_Box {ds : List D} {d : D} {bx bx' : List Ent} (hn : Nat.ble ds.length 59 = true) (h : run TSpM gtab (sizeE bx) c_ref12_Box (retG r_ref12_Box (fun d1 bx1 => Rt (sizeE bx) bx1 d1 d bx')) ⟨env0 0 ds, bx⟩) : TSpM 26 ds bx d bx' := SpM_of mixed c_ref12_Box r_ref12_Box (fn := Try.f26) (by kernel_rfl) (by kernel_rfl) comp_ref12_Box (by kernel_rfl) hn h
/-- glazier/rect.Shift -/
def c_rect_Shift : C := .seq (.reg false [
  ⟨(some 3), none, .box true (.t 0)⟩,
  ⟨(some 6), none, .alloc [(.int .i64 0), (.int .i64 0), (.int .i64 0), (.int .i64 0)]⟩] (some [1, 2, 3, 6])) (
.seq (.seq (.reg false [
  ⟨(some 7), none, .ld (some 4) (.t 3)⟩,
  ⟨(some 8), none, .call false 16 [(.t 7)]⟩,
  ⟨(some 9), none, .mv false (.t 8)⟩,
  ⟨(some 10), some (9, false), .mv false (.t 1)⟩,
  ⟨(some 11), some (9, false), .bin .lss .i64 (.t 10) (.c (.int .i64 (-2097152)))⟩,
  ⟨(some 12), none, .pick (.t 9) (.c (.bool true)) (.t 11)⟩,
  ⟨(some 13), none, .mv false (.t 12)⟩,
  ⟨(some 14), some (13, false), .mv false (.t 1)⟩,
  ⟨(some 15), some (13, false), .bin .gtr .i64 (.t 14) (.c (.int .i64 2097152))⟩,
  ⟨(some 16), none, .pick (.t 13) (.c (.bool true)) (.t 15)⟩,
  ⟨(some 17), none, .mv false (.t 16)⟩,
  ⟨(some 18), some (17, false), .mv false (.t 2)⟩,
  ⟨(some 19), some (17, false), .bin .lss .i64 (.t 18) (.c (.int .i64 (-2097152)))⟩,
  ⟨(some 20), none, .pick (.t 17) (.c (.bool true)) (.t 19)⟩,
  ⟨(some 21), none, .mv false (.t 20)⟩,
  ⟨(some 22), some (21, false), .mv false (.t 2)⟩,
  ⟨(some 23), some (21, false), .bin .gtr .i64 (.t 22) (.c (.int .i64 2097152))⟩,
  ⟨(some 24), none, .pick (.t 21) (.c (.bool true)) (.t 23)⟩] (some [1, 2, 3, 6, 24])) (
.ite (.t 24) (
  .seq (.reg false [
    ⟨(some 25), none, .bld [(.int .i64 0), (.int .i64 0), (.int .i64 0), (.int .i64 0)] []⟩,
    ⟨none, none, .st (some 4) (.t 6) (.t 25)⟩] (some [6])) (
  .ret)) (
  .skip))) (
.seq (.reg false [
  ⟨(some 26), none, .fld 0 (.t 3)⟩,
  ⟨(some 27), none, .ld none (.t 26)⟩,
  ⟨(some 28), none, .mv false (.t 1)⟩,
  ⟨(some 29), none, .bin .add .i64 (.t 27) (.t 28)⟩,
  ⟨(some 30), none, .fld 0 (.t 3)⟩,
  ⟨none, none, .st none (.t 30) (.t 29)⟩] (some [2, 3, 6])) (
.seq (.reg false [
  ⟨(some 31), none, .fld 1 (.t 3)⟩,
  ⟨(some 32), none, .ld none (.t 31)⟩,
  ⟨(some 33), none, .mv false (.t 2)⟩,
  ⟨(some 34), none, .bin .add .i64 (.t 32) (.t 33)⟩,
  ⟨(some 35), none, .fld 1 (.t 3)⟩,
  ⟨none, none, .st none (.t 35) (.t 34)⟩] (some [3, 6])) (
.seq (.reg false [
  ⟨(some 36), none, .ld (some 4) (.t 3)⟩,
  ⟨(some 37), none, .call false 29 [(.t 36)]⟩,
  ⟨none, none, .st (some 4) (.t 6) (.t 37)⟩] (some [6])) (
.ret)))))
set_option maxRecDepth 1000000 in
theorem comp_rect_Shift : (Try.f27.body.bind fun code => compC Try.prog Try.f27.ntmps code c_rect_Shift) = some c_rect_Shift.bare := by kernel_rfl
def r_rect_Shift : List R := [.cell 6 (some 4)]
theorem spo_rect_Shift {ds : List D} {d : D} (hn : Nat.ble ds.length 38 = true) (h : run TSpM gtab 0 c_rect_Shift (retK r_rect_Shift (· = d)) ⟨env0 0 ds, []⟩) : TSp 27 ds d := Sp_of mixed c_rect_Shift r_rect_Shift (fn := Try.f27) (by kernel_rfl) (by kernel_rfl) comp_rect_Shift (by kernel_rfl) hn h
theorem spm_rect_Shift {ds : List D} {d : D} {bx bx' : List Ent} (hn : Nat.ble ds.length 38 = true) (h : run TSpM gtab (sizeE bx) c_rect_Shift (retG r_rect_Shift (fun d1 bx1 => Rt (sizeE bx) bx1 d1 d bx')) ⟨env0 0 ds, bx⟩) : TSpM 27 ds bx d bx' := SpM_of mixed c_rect_Shift r_rect_Shift (fn := Try.f27) (by kernel_rfl) (by kernel_rfl) comp_rect_Shift (by kernel_rfl) hn h
/-- glazier/glazierref12.Shift -/
def c_ref12_Shift : C := .seq (.reg false [
  ⟨(some 3), none, .box true (.t 0)⟩,
  ⟨(some 6), none, .alloc [(.int .i64 0), (.int .i64 0), (.int .i64 0), (.int .i64 0)]⟩] (some [1, 2, 3, 6])) (
.seq (.reg false [
  ⟨(some 7), none, .ld (some 4) (.t 3)⟩,
  ⟨(some 8), none, .call false 19 [(.t 7)]⟩,
  ⟨none, none, .st (some 4) (.t 3) (.t 8)⟩] (some [1, 2, 3, 6])) (
.seq (.seq (.reg false [
  ⟨(some 9), none, .fld 2 (.t 3)⟩,
  ⟨(some 10), none, .ld none (.t 9)⟩,
  ⟨(some 11), none, .bin .eql .i64 (.t 10) (.c (.int .i64 0))⟩,
  ⟨(some 12), none, .mv false (.t 11)⟩,
  ⟨(some 13), some (12, false), .mv false (.t 1)⟩,
  ⟨(some 14), some (12, false), .bin .gtr .i64 (.t 13) (.c (.int .i64 4194304))⟩,
  ⟨(some 15), none, .pick (.t 12) (.c (.bool true)) (.t 14)⟩,
  ⟨(some 16), none, .mv false (.t 15)⟩,
  ⟨(some 17), some (16, false), .mv false (.t 1)⟩,
  ⟨(some 18), some (16, false), .bin .lss .i64 (.t 17) (.c (.int .i64 (-4194304)))⟩,
  ⟨(some 19), none, .pick (.t 16) (.c (.bool true)) (.t 18)⟩,
  ⟨(some 20), none, .mv false (.t 19)⟩,
  ⟨(some 21), some (20, false), .mv false (.t 2)⟩,
  ⟨(some 22), some (20, false), .bin .gtr .i64 (.t 21) (.c (.int .i64 4194304))⟩,
  ⟨(some 23), none, .pick (.t 20) (.c (.bool true)) (.t 22)⟩,
  ⟨(some 24), none, .mv false (.t 23)⟩,
  ⟨(some 25), some (24, false), .mv false (.t 2)⟩,
  ⟨(some 26), some (24, false), .bin .lss .i64 (.t 25) (.c (.int .i64 (-4194304)))⟩,
  ⟨(some 27), none, .pick (.t 24) (.c (.bool true)) (.t 26)⟩] (some [1, 2, 3, 6, 27])) (
.ite (.t 27) (
  .seq (.reg false [
    ⟨(some 28), none, .bld [(.int .i64 0), (.int .i64 0), (.int .i64 0), (.int .i64 0)] []⟩,
    ⟨none, none, .st (some 4) (.t 6) (.t 28)⟩] (some [6])) (
  .ret)) (
  .skip))) (
.seq (.reg false [
  ⟨(some 29), none, .fld 0 (.t 3)⟩,
  ⟨(some 30), none, .ld none (.t 29)⟩,
  ⟨(some 31), none, .mv false (.t 1)⟩,
  ⟨(some 32), none, .bin .add .i64 (.t 30) (.t 31)⟩,
  ⟨(some 33), none, .fld 1 (.t 3)⟩,
  ⟨(some 34), none, .ld none (.t 33)⟩,
  ⟨(some 35), none, .mv false (.t 2)⟩,
  ⟨(some 36), none, .bin .add .i64 (.t 34) (.t 35)⟩,
  ⟨(some 37), none, .fld 2 (.t 3)⟩,
  ⟨(some 38), none, .ld none (.t 37)⟩,
  ⟨(some 39), none, .fld 3 (.t 3)⟩,
  ⟨(some 40), none, .ld none (.t 39)⟩,
  ⟨(some 41), none, .bld [(.int .i64 0), (.int .i64 0), (.int .i64 0), (.int .i64 0)] [(0, none, (.t 32)), (1, none, (.t 36)), (2, none, (.t 38)), (3, none, (.t 40))]⟩,
  ⟨(some 42), none, .call false 19 [(.t 41)]⟩,
  ⟨none, none, .st (some 4) (.t 6) (.t 42)⟩] (some [6])) (
.ret))))
set_option maxRecDepth 1000000 in
theorem comp_ref12_Shift : (Try.f28.body.bind fun code => compC Try.prog Try.f28.ntmps code c_ref12_Shift) = some c_ref12_Shift.bare := by kernel_rfl
def r_ref12_Shift : List R := [.cell 6 (some 4)]
theorem spo_ref12_Shift {ds : List D} {d : D} (hn : Nat.ble ds.length 43 = true) (h : run TSpM gtab 0 c_ref12_Shift (retK r_ref12_Shift (· = d)) ⟨env0 0 ds, []⟩) : TSp 28 ds d := Sp_of mixed c_ref12_Shift r_ref12_Shift (fn := Try.f28) (by kernel_rfl) (by kernel_rfl) comp_ref12_Shift (by kernel_rfl) hn h
theorem spm_ref12_Shift {ds : List D} {d : D} {bx bx' : List Ent} (hn : Nat.ble ds.length 43 = true) (h : run TSpM gtab (sizeE bx) c_ref12_Shift (retG r_ref12_Shift (fun d1 bx1 => Rt (sizeE bx) bx1 d1 d bx')) ⟨env0 0 ds, bx⟩) : TSpM 28 ds bx d bx' := SpM_of mixed c_ref12_Shift r_ref12_Shift (fn := Try.f28) (by kernel_rfl) (by kernel_rfl) comp_ref12_Shift (by kernel_rfl) hn h
/-- glazier/rect.right -/
def c_rect_right : C := .seq (.reg false [
  ⟨(some 1), none, .box true (.t 0)⟩,
  ⟨(some 2), none, .alloc [(.int .i64 0), (.int .i64 0), (.int .i64 0), (.int .i64 0)]⟩] (some [1, 2])) (
.seq (.seq (.reg false [
  ⟨(some 3), none, .ld (some 4) (.t 1)⟩,
  ⟨(some 4), none, .call false 17 [(.t 3)]⟩,
  ⟨(some 5), none, .bin .neq .i64 (.t 4) (.c (.int .i64 0))⟩] (some [1, 2, 5])) (
.ite (.t 5) (
  .seq (.reg false [
    ⟨(some 6), none, .bld [(.int .i64 0), (.int .i64 0), (.int .i64 0), (.int .i64 0)] []⟩,
    ⟨none, none, .st (some 4) (.t 2) (.t 6)⟩] (some [2])) (
  .ret)) (
  .skip))) (
.seq (.reg false [
  ⟨(some 7), none, .ld (some 4) (.t 1)⟩,
  ⟨none, none, .st (some 4) (.t 2) (.t 7)⟩] (some [2])) (
.ret)))
set_option maxRecDepth 1000000 in
theorem comp_rect_right : (Try.f29.body.bind fun code => compC Try.prog Try.f29.ntmps code c_rect_right) = some c_rect_right.bare := by kernel_rfl
def r_rect_right : List R := [.cell 2 (some 4)]
theorem spo_rect_right {ds : List D} {d : D} (hn : Nat.ble ds.length 8 = true) (h : run TSpM gtab 0 c_rect_right (retK r_rect_right (· = d)) ⟨env0 0 ds, []⟩) : TSp 29 ds d := Sp_of mixed c_rect_right r_rect_right (fn := Try.f29) (by kernel_rfl) (by kernel_rfl) comp_rect_right (by kernel_rfl) hn h
theorem spm_rect_right {ds : List D} {d : D} {bx bx' : List Ent} (hn : Nat.ble ds.length 8 = true) (h : run TSpM gtab (sizeE bx) c_rect_right (retG r_rect_right (fun d1 bx1 => Rt (sizeE bx) bx1 d1 d bx')) ⟨env0 0 ds, bx⟩) : TSpM 29 ds bx d bx' := SpM_of mixed c_rect_right r_rect_right (fn := Try.f29) (by kernel_rfl) (by kernel_rfl) comp_rect_right (by kernel_rfl) hn h
/-- glazier/rect.between -/
def c_rect_between : C := .seq (.reg false [
  ⟨(some 8), none, .alloc [(.int .i64 0), (.int .i64 0), (.int .i64 0), (.int .i64 0)]⟩] (some [0, 1, 2, 3, 8])) (
.seq (.seq (.reg false [
  ⟨(some 9), none, .mv false (.t 0)⟩,
  ⟨(some 10), none, .mv false (.t 2)⟩,
  ⟨(some 11), none, .bin .geq .i64 (.t 9) (.t 10)⟩,
  ⟨(some 12), none, .mv false (.t 11)⟩,
  ⟨(some 13), some (12, false), .mv false (.t 1)⟩,
  ⟨(some 14), some (12, false), .mv false (.t 3)⟩,
  ⟨(some 15), some (12, false), .bin .geq .i64 (.t 13) (.t 14)⟩,
  ⟨(some 16), none, .pick (.t 12) (.c (.bool true)) (.t 15)⟩] (some [0, 1, 2, 3, 8, 16])) (
.ite (.t 16) (
  .seq (.reg false [
    ⟨(some 17), none, .bld [(.int .i64 0), (.int .i64 0), (.int .i64 0), (.int .i64 0)] []⟩,
    ⟨none, none, .st (some 4) (.t 8) (.t 17)⟩] (some [8])) (
  .ret)) (
  .skip))) (
.seq (.reg false [
  ⟨(some 18), none, .mv false (.t 0)⟩,
  ⟨(some 19), none, .mv false (.t 1)⟩,
  ⟨(some 20), none, .mv false (.t 2)⟩,
  ⟨(some 21), none, .mv false (.t 0)⟩,
  ⟨(some 22), none, .bin .sub .i64 (.t 20) (.t 21)⟩,
  ⟨(some 23), none, .mv false (.t 3)⟩,
  ⟨(some 24), none, .mv false (.t 1)⟩,
  ⟨(some 25), none, .bin .sub .i64 (.t 23) (.t 24)⟩,
  ⟨(some 26), none, .bld [(.int .i64 0), (.int .i64 0), (.int .i64 0), (.int .i64 0)] [(0, none, (.t 18)), (1, none, (.t 19)), (2, none, (.t 22)), (3, none, (.t 25))]⟩,
  ⟨none, none, .st (some 4) (.t 8) (.t 26)⟩] (some [8])) (
.ret)))
set_option maxRecDepth 1000000 in
theorem comp_rect_between : (Try.f30.body.bind fun code => compC Try.prog Try.f30.ntmps code c_rect_between) = some c_rect_between.bare := by kernel_rfl
def r_rect_between : List R := [.cell 8 (some 4)]
theorem spo_rect_between {ds : List D} {d : D} (hn : Nat.ble ds.length 27 = true) (h : run TSpM gtab 0 c_rect_between (retK r_rect_between (· = d)) ⟨env0 0 ds, []⟩) : TSp 30 ds d := Sp_of mixed c_rect_between r_rect_between (fn := Try.f30) (by kernel_rfl) (by kernel_rfl) comp_rect_between (by kernel_rfl) hn h
theorem spm_rect_between {ds : List D} {d : D} {bx bx' : List Ent} (hn : Nat.ble ds.length 27 = true) (h : run TSpM gtab (sizeE bx) c_rect_between (retG r_rect_between (fun d1 bx1 => Rt (sizeE bx) bx1 d1 d bx')) ⟨env0 0 ds, bx⟩) : TSpM 30 ds bx d bx' := SpM_of mixed c_rect_between r_rect_between (fn := Try.f30) (by kernel_rfl) (by kernel_rfl) comp_rect_between (by kernel_rfl) hn h
/-- glazier/rect.fits -/
def c_rect_fits : C := .seq (.reg false [
  ⟨(some 4), none, .mv false (.c (.bool false))⟩] (some [0, 1])) (
.seq (.reg false [
  ⟨(some 5), none, .mv false (.t 0)⟩,
  ⟨(some 6), none, .bin .geq .i64 (.t 5) (.c (.int .i64 (-1048576)))⟩,
  ⟨(some 7), none, .mv false (.t 6)⟩,
  ⟨(some 8), some (7, true), .mv false (.t 1)⟩,
  ⟨(some 9), some (7, true), .bin .geq .i64 (.t 8) (.c (.int .i64 1))⟩,
  ⟨(some 10), none, .pick (.t 7) (.t 9) (.c (.bool false))⟩,
  ⟨(some 11), none, .mv false (.t 10)⟩,
  ⟨(some 12), some (11, true), .mv false (.t 1)⟩,
  ⟨(some 13), some (11, true), .mv false (.t 0)⟩,
  ⟨(some 14), some (11, true), .bin .sub .i64 (.c (.int .i64 1048576)) (.t 13)⟩,
  ⟨(some 15), some (11, true), .bin .leq .i64 (.t 12) (.t 14)⟩,
  ⟨(some 16), none, .pick (.t 11) (.t 15) (.c (.bool false))⟩,
  ⟨(some 4), none, .mv false (.t 16)⟩] (some [4])) (
.ret))
set_option maxRecDepth 1000000 in
theorem comp_rect_fits : (Try.f31.body.bind fun code => compC Try.prog Try.f31.ntmps code c_rect_fits) = some c_rect_fits.bare := by kernel_rfl
def r_rect_fits : List R := [.t 4]
theorem spo_rect_fits {ds : List D} {d : D} (hn : Nat.ble ds.length 17 = true) (h : run TSpM gtab 0 c_rect_fits (retK r_rect_fits (· = d)) ⟨env0 0 ds, []⟩) : TSp 31 ds d := Sp_of mixed c_rect_fits r_rect_fits (fn := Try.f31) (by kernel_rfl) (by kernel_rfl) comp_rect_fits (by kernel_rfl) hn h
theorem spm_rect_fits {ds : List D} {d : D} {bx bx' : List Ent} (hn : Nat.ble ds.length 17 = true) (h : run TSpM gtab (sizeE bx) c_rect_fits (retG r_rect_fits (fun d1 bx1 => Rt (sizeE bx) bx1 d1 d bx')) ⟨env0 0 ds, bx⟩) : TSpM 31 ds bx d bx' := SpM_of mixed c_rect_fits r_rect_fits (fn := Try.f31) (by kernel_rfl) (by kernel_rfl) comp_rect_fits (by kernel_rfl) hn h
/-- glazier/glazierref12.of -/
def c_ref12_of : C := .seq (.reg false [
  ⟨(some 8), none, .alloc [(.int .i64 0), (.int .i64 0), (.int .i64 0), (.int .i64 0)]⟩] (some [0, 1, 2, 3, 8])) (
.seq (.seq (.reg false [
  ⟨(some 9), none, .mv false (.t 2)⟩,
  ⟨(some 10), none, .mv false (.t 0)⟩,
  ⟨(some 11), none, .bin .leq .i64 (.t 9) (.t 10)⟩,
  ⟨(some 12), none, .mv false (.t 11)⟩,
  ⟨(some 13), some (12, false), .mv false (.t 3)⟩,
  ⟨(some 14), some (12, false), .mv false (.t 1)⟩,
  ⟨(some 15), some (12, false), .bin .leq .i64 (.t 13) (.t 14)⟩,
  ⟨(some 16), none, .pick (.t 12) (.c (.bool true)) (.t 15)⟩] (some [0, 1, 2, 3, 8, 16])) (
.ite (.t 16) (
  .seq (.reg false [
    ⟨(some 17), none, .bld [(.int .i64 0), (.int .i64 0), (.int .i64 0), (.int .i64 0)] []⟩,
    ⟨none, none, .st (some 4) (.t 8) (.t 17)⟩] (some [8])) (
  .ret)) (
  .skip))) (
.seq (.reg false [
  ⟨(some 18), none, .mv false (.t 0)⟩,
  ⟨(some 19), none, .mv false (.t 1)⟩,
  ⟨(some 20), none, .mv false (.t 2)⟩,
  ⟨(some 21), none, .mv false (.t 0)⟩,
  ⟨(some 22), none, .bin .sub .i64 (.t 20) (.t 21)⟩,
  ⟨(some 23), none, .mv false (.t 3)⟩,
  ⟨(some 24), none, .mv false (.t 1)⟩,
  ⟨(some 25), none, .bin .sub .i64 (.t 23) (.t 24)⟩,
  ⟨(some 26), none, .bld [(.int .i64 0), (.int .i64 0), (.int .i64 0), (.int .i64 0)] [(0, none, (.t 18)), (1, none, (.t 19)), (2, none, (.t 22)), (3, none, (.t 25))]⟩,
  ⟨none, none, .st (some 4) (.t 8) (.t 26)⟩] (some [8])) (
.ret)))
set_option maxRecDepth 1000000 in
theorem comp_ref12_of : (Try.f32.body.bind fun code => compC Try.prog Try.f32.ntmps code c_ref12_of) = some c_ref12_of.bare := by kernel_rfl
def r_ref12_of : List R := [.cell 8 (some 4)]
theorem spo_ref12_of {ds : List D} {d : D} (hn : Nat.ble ds.length 27 = true) (h : run TSpM gtab 0 c_ref12_of (retK r_ref12_of (· = d)) ⟨env0 0 ds, []⟩) : TSp 32 ds d := Sp_of mixed c_ref12_of r_ref12_of (fn := Try.f32) (by kernel_rfl) (by kernel_rfl) comp_ref12_of (by kernel_rfl) hn h
theorem spm_ref12_of {ds : List D} {d : D} {bx bx' : List Ent} (hn : Nat.ble ds.length 27 = true) (h : run TSpM gtab (sizeE bx) c_ref12_of (retG r_ref12_of (fun d1 bx1 => Rt (sizeE bx) bx1 d1 d bx')) ⟨env0 0 ds, bx⟩) : TSpM 32 ds bx d bx' := SpM_of mixed c_ref12_of r_ref12_of (fn := Try.f32) (by kernel_rfl) (by kernel_rfl) comp_ref12_of (by kernel_rfl) hn h
/-- glazier/glazierref12.more -/
def c_ref12_more : C := .seq (.reg false [
  ⟨(some 4), none, .mv false (.c (.int .i64 0))⟩] (some [0, 1])) (
.seq (.seq (.reg false [
  ⟨(some 5), none, .mv false (.t 0)⟩,
  ⟨(some 6), none, .mv false (.t 1)⟩,
  ⟨(some 7), none, .bin .gtr .i64 (.t 5) (.t 6)⟩] (some [0, 1, 7])) (
.ite (.t 7) (
  .seq (.reg false [
    ⟨(some 8), none, .mv false (.t 0)⟩,
    ⟨(some 4), none, .mv false (.t 8)⟩] (some [4])) (
  .ret)) (
  .skip))) (
.seq (.reg false [
  ⟨(some 9), none, .mv false (.t 1)⟩,
  ⟨(some 4), none, .mv false (.t 9)⟩] (some [4])) (
.ret)))
set_option maxRecDepth 1000000 in
theorem comp_ref12_more : (Try.f33.body.bind fun code => compC Try.prog Try.f33.ntmps code c_ref12_more) = some c_ref12_more.bare := by kernel_rfl
def r_ref12_more : List R := [.t 4]
theorem spo_ref12_more {ds : List D} {d : D} (hn : Nat.ble ds.length 10 = true) (h : run TSpM gtab 0 c_ref12_more (retK r_ref12_more (· = d)) ⟨env0 0 ds, []⟩) : TSp 33 ds d := Sp_of mixed c_ref12_more r_ref12_more (fn := Try.f33) (by kernel_rfl) (by kernel_rfl) comp_ref12_more (by kernel_rfl) hn h
theorem spm_ref12_more {ds : List D} {d : D} {bx bx' : List Ent} (hn : Nat.ble ds.length 10 = true) (h : run TSpM gtab (sizeE bx) c_ref12_more (retG r_ref12_more (fun d1 bx1 => Rt (sizeE bx) bx1 d1 d bx')) ⟨env0 0 ds, bx⟩) : TSpM 33 ds bx d bx' := SpM_of mixed c_ref12_more r_ref12_more (fn := Try.f33) (by kernel_rfl) (by kernel_rfl) comp_ref12_more (by kernel_rfl) hn h
/-- glazier/glazierref12.less -/
def c_ref12_less : C := .seq (.reg false [
  ⟨(some 4), none, .mv false (.c (.int .i64 0))⟩] (some [0, 1])) (
.seq (.seq (.reg false [
  ⟨(some 5), none, .mv false (.t 0)⟩,
  ⟨(some 6), none, .mv false (.t 1)⟩,
  ⟨(some 7), none, .bin .lss .i64 (.t 5) (.t 6)⟩] (some [0, 1, 7])) (
.ite (.t 7) (
  .seq (.reg false [
    ⟨(some 8), none, .mv false (.t 0)⟩,
    ⟨(some 4), none, .mv false (.t 8)⟩] (some [4])) (
  .ret)) (
  .skip))) (
.seq (.reg false [
  ⟨(some 9), none, .mv false (.t 1)⟩,
  ⟨(some 4), none, .mv false (.t 9)⟩] (some [4])) (
.ret)))
set_option maxRecDepth 1000000 in
theorem comp_ref12_less : (Try.f34.body.bind fun code => compC Try.prog Try.f34.ntmps code c_ref12_less) = some c_ref12_less.bare := by kernel_rfl
def r_ref12_less : List R := [.t 4]
theorem spo_ref12_less {ds : List D} {d : D} (hn : Nat.ble ds.length 10 = true) (h : run TSpM gtab 0 c_ref12_less (retK r_ref12_less (· = d)) ⟨env0 0 ds, []⟩) : TSp 34 ds d := Sp_of mixed c_ref12_less r_ref12_less (fn := Try.f34) (by kernel_rfl) (by kernel_rfl) comp_ref12_less (by kernel_rfl) hn h
theorem spm_ref12_less {ds : List D} {d : D} {bx bx' : List Ent} (hn : Nat.ble ds.length 10 = true) (h : run TSpM gtab (sizeE bx) c_ref12_less (retG r_ref12_less (fun d1 bx1 => Rt (sizeE bx) bx1 d1 d bx')) ⟨env0 0 ds, bx⟩) : TSpM 34 ds bx d bx' := SpM_of mixed c_ref12_less r_ref12_less (fn := Try.f34) (by kernel_rfl) (by kernel_rfl) comp_ref12_less (by kernel_rfl) hn h
end Go.AM
