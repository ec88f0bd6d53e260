/- The functions' code, as the little machine has it (printed by Show.lean). -/
import Derived.Test.YtkcebadfgiknhaaDoorA22
import Derived.Test.YtkcebadfgiknhaaDoorProg
set_option linter.all false
namespace Go.AM
open Go Go.Proofs
theorem mixed : Tryd.prog.follows .mixedOrders = true := by kernel_rfl
def gtL : List (Nat × List D) := [(1, [.str [102, 111, 114, 103, 101, 116], .str [110, 111, 114, 116, 104, 45, 119, 101, 115, 116], .str [110, 111, 114, 116, 104], .str [110, 111, 114, 116, 104, 45, 101, 97, 115, 116], .str [119, 101, 115, 116], .str [99, 101, 110, 116, 101, 114], .str [101, 97, 115, 116], .str [115, 111, 117, 116, 104, 45, 119, 101, 115, 116], .str [115, 111, 117, 116, 104], .str [115, 111, 117, 116, 104, 45, 101, 97, 115, 116], .str [115, 116, 97, 116, 105, 99]]), (0, [.int .i64 0, .int .i64 0, .int .i64 0, .int .i64 0, .int .i64 1, .int .i64 0, .int .i64 2, .int .i64 0, .int .i64 0, .int .i64 1, .int .i64 1, .int .i64 1, .int .i64 2, .int .i64 1, .int .i64 0, .int .i64 2, .int .i64 1, .int .i64 2, .int .i64 2, .int .i64 2])]
def gtab : Nat → Option (List D) := gtFind gtL
abbrev TSp := Sp Tryd.prog gtab
abbrev TSpM := SpM Tryd.prog gtab
/-- glazier/glazierlaw16.GravityMoves -/
def c_law16_GravityMoves : C := .seq (.reg false [
  ⟨(some 4), none, .box true (.t 1)⟩,
  ⟨(some 5), none, .box true (.t 2)⟩,
  ⟨(some 6), none, .mv false (.c (.bool false))⟩] (some [0, 4, 5])) (
.seq (.seq (.reg false [
  ⟨(some 17), none, .call false 9 []⟩,
  ⟨(some 18), none, .not (.t 17)⟩] (some [0, 4, 5, 18])) (
.ite (.t 18) (
  .seq (.reg false [
    ⟨(some 6), none, .mv false (.c (.bool false))⟩] (some [6])) (
  .ret)) (
  .skip))) (
.seq (.reg false [
  ⟨(some 20), none, .mv false (.t 0)⟩,
  ⟨(some 21), none, .ld (some 4) (.t 4)⟩,
  ⟨(some 22), none, .ld (some 4) (.t 5)⟩,
  ⟨(some 23), none, .call false 10 [(.t 20), (.t 21), (.t 22)]⟩,
  ⟨(some 19), none, .mv false (.t 23)⟩,
  ⟨(some 24), none, .ext (.t 19) 0⟩,
  ⟨(some 25), none, .ext (.t 19) 1⟩,
  ⟨(some 7), none, .alloc [(.int .i64 0), (.int .i64 0)]⟩,
  ⟨none, none, .st (some 2) (.t 7) (.t 24)⟩,
  ⟨(some 8), none, .mv false (.t 25)⟩] (some [0, 4, 5, 7, 8])) (
.seq (.reg false [
  ⟨(some 27), none, .mv false (.t 0)⟩,
  ⟨(some 28), none, .ld (some 4) (.t 4)⟩,
  ⟨(some 29), none, .ld (some 4) (.t 5)⟩,
  ⟨(some 30), none, .call false 11 [(.t 27), (.t 28), (.t 29)]⟩,
  ⟨(some 26), none, .mv false (.t 30)⟩,
  ⟨(some 31), none, .ext (.t 26) 0⟩,
  ⟨(some 32), none, .ext (.t 26) 1⟩,
  ⟨(some 9), none, .alloc [(.int .i64 0), (.int .i64 0)]⟩,
  ⟨none, none, .st (some 2) (.t 9) (.t 31)⟩,
  ⟨(some 10), none, .mv false (.t 32)⟩] (some [0, 4, 5, 7, 8, 9, 10])) (
.seq (.reg false [
  ⟨(some 34), none, .mv false (.t 0)⟩,
  ⟨(some 35), none, .ld (some 4) (.t 4)⟩,
  ⟨(some 36), none, .ld (some 4) (.t 5)⟩,
  ⟨(some 37), none, .call false 12 [(.t 34), (.t 35), (.t 36)]⟩,
  ⟨(some 33), none, .mv false (.t 37)⟩,
  ⟨(some 38), none, .ext (.t 33) 0⟩,
  ⟨(some 39), none, .ext (.t 33) 1⟩,
  ⟨(some 40), none, .ext (.t 33) 2⟩,
  ⟨(some 11), none, .alloc [(.int .i64 0), (.int .i64 0)]⟩,
  ⟨(some 12), none, .alloc [(.int .i64 0), (.int .i64 0), (.int .i64 0), (.int .i64 0)]⟩,
  ⟨none, none, .st (some 2) (.t 11) (.t 38)⟩,
  ⟨none, none, .st (some 4) (.t 12) (.t 39)⟩,
  ⟨(some 13), none, .mv false (.t 40)⟩] (some [0, 4, 5, 7, 8, 9, 10, 11, 12, 13])) (
.seq (.reg false [
  ⟨(some 42), none, .mv false (.t 0)⟩,
  ⟨(some 43), none, .ld (some 4) (.t 4)⟩,
  ⟨(some 44), none, .ld (some 4) (.t 5)⟩,
  ⟨(some 45), none, .call false 13 [(.t 42), (.t 43), (.t 44)]⟩,
  ⟨(some 41), none, .mv false (.t 45)⟩,
  ⟨(some 46), none, .ext (.t 41) 0⟩,
  ⟨(some 47), none, .ext (.t 41) 1⟩,
  ⟨(some 48), none, .ext (.t 41) 2⟩,
  ⟨(some 14), none, .alloc [(.int .i64 0), (.int .i64 0)]⟩,
  ⟨(some 15), none, .alloc [(.int .i64 0), (.int .i64 0), (.int .i64 0), (.int .i64 0)]⟩,
  ⟨none, none, .st (some 2) (.t 14) (.t 46)⟩,
  ⟨none, none, .st (some 4) (.t 15) (.t 47)⟩,
  ⟨(some 16), none, .mv false (.t 48)⟩] (some [7, 8, 9, 10, 11, 12, 13, 14, 15, 16])) (
.seq (.reg false [
  ⟨(some 49), none, .ld (some 2) (.t 7)⟩,
  ⟨(some 50), none, .ld (some 2) (.t 9)⟩,
  ⟨(some 51), none, .eqS false [.i .i64, .i .i64] (.t 49) (.t 50)⟩,
  ⟨(some 52), none, .mv false (.t 51)⟩,
  ⟨(some 53), some (52, true), .mv false (.t 8)⟩,
  ⟨(some 54), some (52, true), .mv false (.t 10)⟩,
  ⟨(some 55), some (52, true), .eqb false false (.t 53) (.t 54)⟩,
  ⟨(some 56), none, .pick (.t 52) (.t 55) (.c (.bool false))⟩,
  ⟨(some 57), none, .mv false (.t 56)⟩,
  ⟨(some 58), some (57, true), .ld (some 2) (.t 11)⟩,
  ⟨(some 59), some (57, true), .ld (some 2) (.t 14)⟩,
  ⟨(some 60), some (57, true), .eqS false [.i .i64, .i .i64] (.t 58) (.t 59)⟩,
  ⟨(some 61), none, .pick (.t 57) (.t 60) (.c (.bool false))⟩,
  ⟨(some 62), none, .mv false (.t 61)⟩,
  ⟨(some 63), some (62, true), .ld (some 4) (.t 12)⟩,
  ⟨(some 64), some (62, true), .ld (some 4) (.t 15)⟩,
  ⟨(some 65), some (62, true), .eqS false [.i .i64, .i .i64, .i .i64, .i .i64] (.t 63) (.t 64)⟩,
  ⟨(some 66), none, .pick (.t 62) (.t 65) (.c (.bool false))⟩,
  ⟨(some 67), none, .mv false (.t 66)⟩,
  ⟨(some 68), some (67, true), .mv false (.t 13)⟩,
  ⟨(some 69), some (67, true), .mv false (.t 16)⟩,
  ⟨(some 70), some (67, true), .eqb false false (.t 68) (.t 69)⟩,
  ⟨(some 71), none, .pick (.t 67) (.t 70) (.c (.bool false))⟩,
  ⟨(some 6), none, .mv false (.t 71)⟩] (some [6])) (
.ret)))))))
set_option maxRecDepth 1000000 in
theorem comp_law16_GravityMoves : (Tryd.f3.body.bind fun code => compC Tryd.prog Tryd.f3.ntmps code c_law16_GravityMoves) = some c_law16_GravityMoves.bare := by kernel_rfl
def r_law16_GravityMoves : List R := [.t 6]
theorem spo_law16_GravityMoves {ds : List D} {d : D} (hn : Nat.ble ds.length 72 = true) (h : run TSpM gtab 0 c_law16_GravityMoves (retK r_law16_GravityMoves (· = d)) ⟨env0 0 ds, []⟩) : TSp 3 ds d := Sp_of mixed c_law16_GravityMoves r_law16_GravityMoves (fn := Tryd.f3) (by kernel_rfl) (by kernel_rfl) comp_law16_GravityMoves (by kernel_rfl) hn h
theorem spm_law16_GravityMoves {ds : List D} {d : D} {bx bx' : List Ent} (hn : Nat.ble ds.length 72 = true) (h : run TSpM gtab (sizeE bx) c_law16_GravityMoves (retG r_law16_GravityMoves (fun d1 bx1 => Rt (sizeE bx) bx1 d1 d bx')) ⟨env0 0 ds, bx⟩) : TSpM 3 ds bx d bx' := SpM_of mixed c_law16_GravityMoves r_law16_GravityMoves (fn := Tryd.f3) (by kernel_rfl) (by kernel_rfl) comp_law16_GravityMoves (by kernel_rfl) hn h
/-- glazier/glazierlaw16.GravityStays -/
def c_law16_GravityStays : C := .seq (.reg false [
  ⟨(some 4), none, .box true (.t 1)⟩,
  ⟨(some 5), none, .box true (.t 2)⟩,
  ⟨(some 6), none, .mv false (.c (.bool false))⟩] (some [0, 4, 5])) (
.seq (.seq (.reg false [
  ⟨(some 11), none, .call false 9 []⟩,
  ⟨(some 12), none, .not (.t 11)⟩] (some [0, 4, 5, 12])) (
.ite (.t 12) (
  .seq (.reg false [
    ⟨(some 6), none, .mv false (.c (.bool false))⟩] (some [6])) (
  .ret)) (
  .skip))) (
.seq (.reg false [
  ⟨(some 14), none, .mv false (.t 0)⟩,
  ⟨(some 15), none, .ld (some 4) (.t 4)⟩,
  ⟨(some 16), none, .ld (some 4) (.t 5)⟩,
  ⟨(some 17), none, .call false 10 [(.t 14), (.t 15), (.t 16)]⟩,
  ⟨(some 13), none, .mv false (.t 17)⟩,
  ⟨(some 18), none, .ext (.t 13) 0⟩,
  ⟨(some 19), none, .ext (.t 13) 1⟩,
  ⟨(some 7), none, .alloc [(.int .i64 0), (.int .i64 0)]⟩,
  ⟨none, none, .st (some 2) (.t 7) (.t 18)⟩,
  ⟨(some 8), none, .mv false (.t 19)⟩] (some [0, 4, 5, 7, 8])) (
.seq (.seq (.reg false [
  ⟨(some 20), none, .mv false (.t 8)⟩,
  ⟨(some 21), none, .not (.t 20)⟩] (some [0, 4, 5, 7, 21])) (
.ite (.t 21) (
  .seq (.reg false [
    ⟨(some 22), none, .ld (some 2) (.t 7)⟩,
    ⟨(some 23), none, .bld [(.int .i64 0), (.int .i64 0)] []⟩,
    ⟨(some 24), none, .eqS false [.i .i64, .i .i64] (.t 22) (.t 23)⟩,
    ⟨(some 6), none, .mv false (.t 24)⟩] (some [6])) (
  .ret)) (
  .skip))) (
.seq (.seq (.reg false [
  ⟨(some 25), none, .ld (some 4) (.t 4)⟩,
  ⟨(some 26), none, .call false 14 [(.t 25)]⟩,
  ⟨(some 27), none, .not (.t 26)⟩,
  ⟨(some 28), none, .mv false (.t 27)⟩,
  ⟨(some 29), some (28, false), .ld (some 4) (.t 5)⟩,
  ⟨(some 30), some (28, false), .call false 14 [(.t 29)]⟩,
  ⟨(some 31), some (28, false), .not (.t 30)⟩,
  ⟨(some 32), none, .pick (.t 28) (.c (.bool true)) (.t 31)⟩] (some [0, 4, 5, 7, 32])) (
.ite (.t 32) (
  .seq (.reg false [
    ⟨(some 6), none, .mv false (.c (.bool false))⟩] (some [6])) (
  .ret)) (
  .skip))) (
.seq (.seq (.reg false [
  ⟨(some 33), none, .fld 2 (.t 4)⟩,
  ⟨(some 34), none, .ld none (.t 33)⟩,
  ⟨(some 35), none, .fld 2 (.t 5)⟩,
  ⟨(some 36), none, .ld none (.t 35)⟩,
  ⟨(some 37), none, .bin .eql .i64 (.t 34) (.t 36)⟩,
  ⟨(some 38), none, .mv false (.t 37)⟩,
  ⟨(some 39), some (38, true), .fld 3 (.t 4)⟩,
  ⟨(some 40), some (38, true), .ld none (.t 39)⟩,
  ⟨(some 41), some (38, true), .fld 3 (.t 5)⟩,
  ⟨(some 42), some (38, true), .ld none (.t 41)⟩,
  ⟨(some 43), some (38, true), .bin .eql .i64 (.t 40) (.t 42)⟩,
  ⟨(some 44), none, .pick (.t 38) (.t 43) (.c (.bool false))⟩,
  ⟨(some 45), none, .mv false (.t 44)⟩,
  ⟨(some 46), some (45, true), .mv false (.t 0)⟩,
  ⟨(some 47), some (45, true), .bin .neq .i64 (.t 46) (.c (.int .i64 10))⟩,
  ⟨(some 48), none, .pick (.t 45) (.t 47) (.c (.bool false))⟩,
  ⟨(some 49), none, .mv false (.t 48)⟩,
  ⟨(some 50), some (49, true), .ld (some 2) (.t 7)⟩,
  ⟨(some 51), some (49, true), .bld [(.int .i64 0), (.int .i64 0)] []⟩,
  ⟨(some 52), some (49, true), .eqS true [.i .i64, .i .i64] (.t 50) (.t 51)⟩,
  ⟨(some 53), none, .pick (.t 49) (.t 52) (.c (.bool false))⟩] (some [4, 5, 53])) (
.ite (.t 53) (
  .seq (.reg false [
    ⟨(some 6), none, .mv false (.c (.bool false))⟩] (some [6])) (
  .ret)) (
  .skip))) (
.seq (.reg false [
  ⟨(some 55), none, .ld (some 4) (.t 4)⟩,
  ⟨(some 56), none, .ld (some 4) (.t 5)⟩,
  ⟨(some 57), none, .call false 10 [(.c (.int .i64 10)), (.t 55), (.t 56)]⟩,
  ⟨(some 54), none, .mv false (.t 57)⟩,
  ⟨(some 58), none, .ext (.t 54) 0⟩,
  ⟨(some 59), none, .ext (.t 54) 1⟩,
  ⟨(some 9), none, .alloc [(.int .i64 0), (.int .i64 0)]⟩,
  ⟨none, none, .st (some 2) (.t 9) (.t 58)⟩,
  ⟨(some 10), none, .mv false (.t 59)⟩] (some [4, 5, 9, 10])) (
.seq (.reg false [
  ⟨(some 60), none, .mv false (.t 10)⟩,
  ⟨(some 61), none, .mv false (.t 60)⟩,
  ⟨(some 62), some (61, true), .fld 0 (.t 5)⟩,
  ⟨(some 63), some (61, true), .ld none (.t 62)⟩,
  ⟨(some 64), some (61, true), .fld 0 (.t 9)⟩,
  ⟨(some 65), some (61, true), .ld none (.t 64)⟩,
  ⟨(some 66), some (61, true), .bin .add .i64 (.t 63) (.t 65)⟩,
  ⟨(some 67), some (61, true), .fld 0 (.t 4)⟩,
  ⟨(some 68), some (61, true), .ld none (.t 67)⟩,
  ⟨(some 69), some (61, true), .bin .eql .i64 (.t 66) (.t 68)⟩,
  ⟨(some 70), none, .pick (.t 61) (.t 69) (.c (.bool false))⟩,
  ⟨(some 71), none, .mv false (.t 70)⟩,
  ⟨(some 72), some (71, true), .fld 1 (.t 5)⟩,
  ⟨(some 73), some (71, true), .ld none (.t 72)⟩,
  ⟨(some 74), some (71, true), .fld 1 (.t 9)⟩,
  ⟨(some 75), some (71, true), .ld none (.t 74)⟩,
  ⟨(some 76), some (71, true), .bin .add .i64 (.t 73) (.t 75)⟩,
  ⟨(some 77), some (71, true), .fld 1 (.t 4)⟩,
  ⟨(some 78), some (71, true), .ld none (.t 77)⟩,
  ⟨(some 79), some (71, true), .bin .eql .i64 (.t 76) (.t 78)⟩,
  ⟨(some 80), none, .pick (.t 71) (.t 79) (.c (.bool false))⟩,
  ⟨(some 6), none, .mv false (.t 80)⟩] (some [6])) (
.ret))))))))
set_option maxRecDepth 1000000 in
theorem comp_law16_GravityStays : (Tryd.f4.body.bind fun code => compC Tryd.prog Tryd.f4.ntmps code c_law16_GravityStays) = some c_law16_GravityStays.bare := by kernel_rfl
def r_law16_GravityStays : List R := [.t 6]
theorem spo_law16_GravityStays {ds : List D} {d : D} (hn : Nat.ble ds.length 81 = true) (h : run TSpM gtab 0 c_law16_GravityStays (retK r_law16_GravityStays (· = d)) ⟨env0 0 ds, []⟩) : TSp 4 ds d := Sp_of mixed c_law16_GravityStays r_law16_GravityStays (fn := Tryd.f4) (by kernel_rfl) (by kernel_rfl) comp_law16_GravityStays (by kernel_rfl) hn h
theorem spm_law16_GravityStays {ds : List D} {d : D} {bx bx' : List Ent} (hn : Nat.ble ds.length 81 = true) (h : run TSpM gtab (sizeE bx) c_law16_GravityStays (retG r_law16_GravityStays (fun d1 bx1 => Rt (sizeE bx) bx1 d1 d bx')) ⟨env0 0 ds, bx⟩) : TSpM 4 ds bx d bx' := SpM_of mixed c_law16_GravityStays r_law16_GravityStays (fn := Tryd.f4) (by kernel_rfl) (by kernel_rfl) comp_law16_GravityStays (by kernel_rfl) hn h
/-- glazier/glazierlaw16.GravityEdges -/
def c_law16_GravityEdges : C := .seq (.reg false [
  ⟨(some 2), none, .box true (.t 0)⟩,
  ⟨(some 3), none, .box true (.t 1)⟩,
  ⟨(some 4), none, .mv false (.c (.bool false))⟩] (some [2, 3])) (
.seq (.seq (.reg false [
  ⟨(some 13), none, .call false 9 []⟩,
  ⟨(some 14), none, .not (.t 13)⟩] (some [2, 3, 14])) (
.ite (.t 14) (
  .seq (.reg false [
    ⟨(some 4), none, .mv false (.c (.bool false))⟩] (some [4])) (
  .ret)) (
  .skip))) (
.seq (.seq (.reg false [
  ⟨(some 15), none, .ld (some 4) (.t 2)⟩,
  ⟨(some 16), none, .call false 14 [(.t 15)]⟩,
  ⟨(some 17), none, .not (.t 16)⟩,
  ⟨(some 18), none, .mv false (.t 17)⟩,
  ⟨(some 19), some (18, false), .ld (some 4) (.t 3)⟩,
  ⟨(some 20), some (18, false), .call false 14 [(.t 19)]⟩,
  ⟨(some 21), some (18, false), .not (.t 20)⟩,
  ⟨(some 22), none, .pick (.t 18) (.c (.bool true)) (.t 21)⟩] (some [2, 3, 22])) (
.ite (.t 22) (
  .seq (.reg false [
    ⟨(some 4), none, .mv false (.c (.bool true))⟩] (some [4])) (
  .ret)) (
  .skip))) (
.seq (.reg false [
  ⟨(some 24), none, .ld (some 4) (.t 2)⟩,
  ⟨(some 25), none, .ld (some 4) (.t 3)⟩,
  ⟨(some 26), none, .call false 10 [(.c (.int .i64 1)), (.t 24), (.t 25)]⟩,
  ⟨(some 23), none, .mv false (.t 26)⟩,
  ⟨(some 27), none, .ext (.t 23) 0⟩,
  ⟨(some 28), none, .ext (.t 23) 1⟩,
  ⟨(some 5), none, .alloc [(.int .i64 0), (.int .i64 0)]⟩,
  ⟨none, none, .st (some 2) (.t 5) (.t 27)⟩,
  ⟨(some 6), none, .mv false (.t 28)⟩] (some [2, 3, 5, 6])) (
.seq (.reg false [
  ⟨(some 30), none, .ld (some 4) (.t 2)⟩,
  ⟨(some 31), none, .ld (some 4) (.t 3)⟩,
  ⟨(some 32), none, .call false 10 [(.c (.int .i64 9)), (.t 30), (.t 31)]⟩,
  ⟨(some 29), none, .mv false (.t 32)⟩,
  ⟨(some 33), none, .ext (.t 29) 0⟩,
  ⟨(some 34), none, .ext (.t 29) 1⟩,
  ⟨(some 7), none, .alloc [(.int .i64 0), (.int .i64 0)]⟩,
  ⟨none, none, .st (some 2) (.t 7) (.t 33)⟩,
  ⟨(some 8), none, .mv false (.t 34)⟩] (some [2, 3, 5, 6, 7, 8])) (
.seq (.reg false [
  ⟨(some 36), none, .ld (some 4) (.t 2)⟩,
  ⟨(some 37), none, .ld (some 4) (.t 3)⟩,
  ⟨(some 38), none, .call false 10 [(.c (.int .i64 5)), (.t 36), (.t 37)]⟩,
  ⟨(some 35), none, .mv false (.t 38)⟩,
  ⟨(some 39), none, .ext (.t 35) 0⟩,
  ⟨(some 40), none, .ext (.t 35) 1⟩,
  ⟨(some 9), none, .alloc [(.int .i64 0), (.int .i64 0)]⟩,
  ⟨none, none, .st (some 2) (.t 9) (.t 39)⟩,
  ⟨(some 10), none, .mv false (.t 40)⟩] (some [2, 3, 5, 6, 7, 8, 9, 10])) (
.seq (.seq (.reg false [
  ⟨(some 41), none, .mv false (.t 6)⟩,
  ⟨(some 42), none, .not (.t 41)⟩,
  ⟨(some 43), none, .mv false (.t 42)⟩,
  ⟨(some 44), some (43, false), .mv false (.t 8)⟩,
  ⟨(some 45), some (43, false), .not (.t 44)⟩,
  ⟨(some 46), none, .pick (.t 43) (.c (.bool true)) (.t 45)⟩,
  ⟨(some 47), none, .mv false (.t 46)⟩,
  ⟨(some 48), some (47, false), .mv false (.t 10)⟩,
  ⟨(some 49), some (47, false), .not (.t 48)⟩,
  ⟨(some 50), none, .pick (.t 47) (.c (.bool true)) (.t 49)⟩,
  ⟨(some 51), none, .mv false (.t 50)⟩,
  ⟨(some 52), some (51, false), .ld (some 2) (.t 5)⟩,
  ⟨(some 53), some (51, false), .bld [(.int .i64 0), (.int .i64 0)] []⟩,
  ⟨(some 54), some (51, false), .eqS true [.i .i64, .i .i64] (.t 52) (.t 53)⟩,
  ⟨(some 55), none, .pick (.t 51) (.c (.bool true)) (.t 54)⟩,
  ⟨(some 56), none, .mv false (.t 55)⟩,
  ⟨(some 57), some (56, false), .fld 2 (.t 3)⟩,
  ⟨(some 58), some (56, false), .ld none (.t 57)⟩,
  ⟨(some 59), some (56, false), .fld 0 (.t 7)⟩,
  ⟨(some 60), some (56, false), .ld none (.t 59)⟩,
  ⟨(some 61), some (56, false), .bin .sub .i64 (.t 58) (.t 60)⟩,
  ⟨(some 62), some (56, false), .fld 2 (.t 2)⟩,
  ⟨(some 63), some (56, false), .ld none (.t 62)⟩,
  ⟨(some 64), some (56, false), .bin .neq .i64 (.t 61) (.t 63)⟩,
  ⟨(some 65), none, .pick (.t 56) (.c (.bool true)) (.t 64)⟩,
  ⟨(some 66), none, .mv false (.t 65)⟩,
  ⟨(some 67), some (66, false), .fld 3 (.t 3)⟩,
  ⟨(some 68), some (66, false), .ld none (.t 67)⟩,
  ⟨(some 69), some (66, false), .fld 1 (.t 7)⟩,
  ⟨(some 70), some (66, false), .ld none (.t 69)⟩,
  ⟨(some 71), some (66, false), .bin .sub .i64 (.t 68) (.t 70)⟩,
  ⟨(some 72), some (66, false), .fld 3 (.t 2)⟩,
  ⟨(some 73), some (66, false), .ld none (.t 72)⟩,
  ⟨(some 74), some (66, false), .bin .neq .i64 (.t 71) (.t 73)⟩,
  ⟨(some 75), none, .pick (.t 66) (.c (.bool true)) (.t 74)⟩] (some [7, 9, 75])) (
.ite (.t 75) (
  .seq (.reg false [
    ⟨(some 4), none, .mv false (.c (.bool false))⟩] (some [4])) (
  .ret)) (
  .skip))) (
.seq (.reg true [
  ⟨(some 76), none, .fld 0 (.t 7)⟩,
  ⟨(some 77), none, .ld none (.t 76)⟩,
  ⟨(some 78), none, .fld 0 (.t 9)⟩,
  ⟨(some 79), none, .ld none (.t 78)⟩,
  ⟨(some 80), none, .bin .mul .i64 (.c (.int .i64 2)) (.t 79)⟩,
  ⟨(some 81), none, .bin .sub .i64 (.t 77) (.t 80)⟩,
  ⟨(some 82), none, .fld 1 (.t 7)⟩,
  ⟨(some 83), none, .ld none (.t 82)⟩,
  ⟨(some 84), none, .fld 1 (.t 9)⟩,
  ⟨(some 85), none, .ld none (.t 84)⟩,
  ⟨(some 86), none, .bin .mul .i64 (.c (.int .i64 2)) (.t 85)⟩,
  ⟨(some 87), none, .bin .sub .i64 (.t 83) (.t 86)⟩,
  ⟨(some 11), none, .mv false (.t 81)⟩,
  ⟨(some 12), none, .mv false (.t 87)⟩] (some [11, 12])) (
.seq (.reg false [
  ⟨(some 88), none, .mv false (.t 11)⟩,
  ⟨(some 89), none, .bin .eql .i64 (.t 88) (.c (.int .i64 0))⟩,
  ⟨(some 90), none, .mv false (.t 89)⟩,
  ⟨(some 91), some (90, false), .mv false (.t 11)⟩,
  ⟨(some 92), some (90, false), .bin .eql .i64 (.t 91) (.c (.int .i64 1))⟩,
  ⟨(some 93), none, .pick (.t 90) (.c (.bool true)) (.t 92)⟩,
  ⟨(some 94), none, .mv false (.t 93)⟩,
  ⟨(some 95), some (94, true), .mv false (.t 12)⟩,
  ⟨(some 96), some (94, true), .bin .eql .i64 (.t 95) (.c (.int .i64 0))⟩,
  ⟨(some 97), some (94, true), .mv false (.t 96)⟩,
  ⟨(some 98), some (97, false), .mv false (.t 12)⟩,
  ⟨(some 99), some (97, false), .bin .eql .i64 (.t 98) (.c (.int .i64 1))⟩,
  ⟨(some 100), some (94, true), .pick (.t 97) (.c (.bool true)) (.t 99)⟩,
  ⟨(some 101), none, .pick (.t 94) (.t 100) (.c (.bool false))⟩,
  ⟨(some 4), none, .mv false (.t 101)⟩] (some [4])) (
.ret)))))))))
set_option maxRecDepth 1000000 in
theorem comp_law16_GravityEdges : (Tryd.f5.body.bind fun code => compC Tryd.prog Tryd.f5.ntmps code c_law16_GravityEdges) = some c_law16_GravityEdges.bare := by kernel_rfl
def r_law16_GravityEdges : List R := [.t 4]
theorem spo_law16_GravityEdges {ds : List D} {d : D} (hn : Nat.ble ds.length 102 = true) (h : run TSpM gtab 0 c_law16_GravityEdges (retK r_law16_GravityEdges (· = d)) ⟨env0 0 ds, []⟩) : TSp 5 ds d := Sp_of mixed c_law16_GravityEdges r_law16_GravityEdges (fn := Tryd.f5) (by kernel_rfl) (by kernel_rfl) comp_law16_GravityEdges (by kernel_rfl) hn h
theorem spm_law16_GravityEdges {ds : List D} {d : D} {bx bx' : List Ent} (hn : Nat.ble ds.length 102 = true) (h : run TSpM gtab (sizeE bx) c_law16_GravityEdges (retG r_law16_GravityEdges (fun d1 bx1 => Rt (sizeE bx) bx1 d1 d bx')) ⟨env0 0 ds, bx⟩) : TSpM 5 ds bx d bx' := SpM_of mixed c_law16_GravityEdges r_law16_GravityEdges (fn := Tryd.f5) (by kernel_rfl) (by kernel_rfl) comp_law16_GravityEdges (by kernel_rfl) hn h
/-- glazier/glazierlaw16.GravityTurns -/
def c_law16_GravityTurns : C := .seq (.reg false [
  ⟨(some 4), none, .box true (.t 1)⟩,
  ⟨(some 5), none, .box true (.t 2)⟩,
  ⟨(some 6), none, .mv false (.c (.bool false))⟩] (some [0, 4, 5])) (
.seq (.seq (.reg false [
  ⟨(some 14), none, .call false 9 []⟩,
  ⟨(some 15), none, .not (.t 14)⟩] (some [0, 4, 5, 15])) (
.ite (.t 15) (
  .seq (.reg false [
    ⟨(some 6), none, .mv false (.c (.bool false))⟩] (some [6])) (
  .ret)) (
  .skip))) (
.seq (.reg false [
  ⟨(some 17), none, .mv false (.t 0)⟩,
  ⟨(some 18), none, .ld (some 4) (.t 4)⟩,
  ⟨(some 19), none, .ld (some 4) (.t 5)⟩,
  ⟨(some 20), none, .call false 10 [(.t 17), (.t 18), (.t 19)]⟩,
  ⟨(some 16), none, .mv false (.t 20)⟩,
  ⟨(some 21), none, .ext (.t 16) 0⟩,
  ⟨(some 22), none, .ext (.t 16) 1⟩,
  ⟨(some 7), none, .alloc [(.int .i64 0), (.int .i64 0)]⟩,
  ⟨none, none, .st (some 2) (.t 7) (.t 21)⟩,
  ⟨(some 8), none, .mv false (.t 22)⟩] (some [0, 4, 5, 7, 8])) (
.seq (.reg false [
  ⟨(some 24), none, .mv false (.t 0)⟩,
  ⟨(some 25), none, .ld (some 4) (.t 5)⟩,
  ⟨(some 26), none, .ld (some 4) (.t 4)⟩,
  ⟨(some 27), none, .call false 10 [(.t 24), (.t 25), (.t 26)]⟩,
  ⟨(some 23), none, .mv false (.t 27)⟩,
  ⟨(some 28), none, .ext (.t 23) 0⟩,
  ⟨(some 29), none, .ext (.t 23) 1⟩,
  ⟨(some 9), none, .alloc [(.int .i64 0), (.int .i64 0)]⟩,
  ⟨none, none, .st (some 2) (.t 9) (.t 28)⟩,
  ⟨(some 10), none, .mv false (.t 29)⟩] (some [0, 7, 8, 9, 10])) (
.seq (.seq (.reg false [
  ⟨(some 30), none, .mv false (.t 8)⟩,
  ⟨(some 31), none, .mv false (.t 10)⟩,
  ⟨(some 32), none, .eqb true false (.t 30) (.t 31)⟩] (some [0, 7, 9, 32])) (
.ite (.t 32) (
  .seq (.reg false [
    ⟨(some 6), none, .mv false (.c (.bool false))⟩] (some [6])) (
  .ret)) (
  .skip))) (
.seq (.reg true [
  ⟨(some 33), none, .fld 0 (.t 7)⟩,
  ⟨(some 34), none, .ld none (.t 33)⟩,
  ⟨(some 35), none, .fld 0 (.t 9)⟩,
  ⟨(some 36), none, .ld none (.t 35)⟩,
  ⟨(some 37), none, .bin .add .i64 (.t 34) (.t 36)⟩,
  ⟨(some 38), none, .fld 1 (.t 7)⟩,
  ⟨(some 39), none, .ld none (.t 38)⟩,
  ⟨(some 40), none, .fld 1 (.t 9)⟩,
  ⟨(some 41), none, .ld none (.t 40)⟩,
  ⟨(some 42), none, .bin .add .i64 (.t 39) (.t 41)⟩,
  ⟨(some 11), none, .mv false (.t 37)⟩,
  ⟨(some 12), none, .mv false (.t 42)⟩] (some [0, 11, 12])) (
.seq (.reg false [
  ⟨(some 43), none, .mv false (.t 0)⟩,
  ⟨(some 44), none, .bin .eql .i64 (.t 43) (.c (.int .i64 2))⟩,
  ⟨(some 45), none, .mv false (.t 44)⟩,
  ⟨(some 46), some (45, false), .mv false (.t 0)⟩,
  ⟨(some 47), some (45, false), .bin .eql .i64 (.t 46) (.c (.int .i64 8))⟩,
  ⟨(some 48), none, .pick (.t 45) (.c (.bool true)) (.t 47)⟩,
  ⟨(some 49), none, .mv false (.t 48)⟩,
  ⟨(some 50), some (49, false), .mv false (.t 0)⟩,
  ⟨(some 51), some (49, false), .bin .eql .i64 (.t 50) (.c (.int .i64 5))⟩,
  ⟨(some 52), none, .pick (.t 49) (.c (.bool true)) (.t 51)⟩,
  ⟨(some 53), none, .mv false (.t 52)⟩,
  ⟨(some 54), some (53, false), .mv false (.t 0)⟩,
  ⟨(some 55), some (53, false), .bin .eql .i64 (.t 54) (.c (.int .i64 4))⟩,
  ⟨(some 56), none, .pick (.t 53) (.c (.bool true)) (.t 55)⟩,
  ⟨(some 57), none, .mv false (.t 56)⟩,
  ⟨(some 58), some (57, false), .mv false (.t 0)⟩,
  ⟨(some 59), some (57, false), .bin .eql .i64 (.t 58) (.c (.int .i64 6))⟩,
  ⟨(some 60), none, .pick (.t 57) (.c (.bool true)) (.t 59)⟩,
  ⟨(some 13), none, .mv false (.t 60)⟩] (some [11, 12, 13])) (
.seq (.reg false [
  ⟨(some 61), none, .mv false (.t 11)⟩,
  ⟨(some 62), none, .bin .leq .i64 (.t 61) (.c (.int .i64 0))⟩,
  ⟨(some 63), none, .mv false (.t 62)⟩,
  ⟨(some 64), some (63, true), .mv false (.t 12)⟩,
  ⟨(some 65), some (63, true), .bin .leq .i64 (.t 64) (.c (.int .i64 0))⟩,
  ⟨(some 66), none, .pick (.t 63) (.t 65) (.c (.bool false))⟩,
  ⟨(some 67), none, .mv false (.t 66)⟩,
  ⟨(some 68), some (67, true), .mv false (.t 11)⟩,
  ⟨(some 69), some (67, true), .bin .geq .i64 (.t 68) (.c (.int .i64 (-1)))⟩,
  ⟨(some 70), none, .pick (.t 67) (.t 69) (.c (.bool false))⟩,
  ⟨(some 71), none, .mv false (.t 70)⟩,
  ⟨(some 72), some (71, true), .mv false (.t 12)⟩,
  ⟨(some 73), some (71, true), .bin .geq .i64 (.t 72) (.c (.int .i64 (-1)))⟩,
  ⟨(some 74), none, .pick (.t 71) (.t 73) (.c (.bool false))⟩,
  ⟨(some 75), none, .mv false (.t 74)⟩,
  ⟨(some 76), some (75, true), .mv false (.t 13)⟩,
  ⟨(some 77), some (75, true), .mv false (.t 76)⟩,
  ⟨(some 78), some (77, false), .mv false (.t 11)⟩,
  ⟨(some 79), some (77, false), .bin .eql .i64 (.t 78) (.c (.int .i64 0))⟩,
  ⟨(some 80), some (77, false), .mv false (.t 79)⟩,
  ⟨(some 81), some (80, true), .mv false (.t 12)⟩,
  ⟨(some 82), some (80, true), .bin .eql .i64 (.t 81) (.c (.int .i64 0))⟩,
  ⟨(some 83), some (77, false), .pick (.t 80) (.t 82) (.c (.bool false))⟩,
  ⟨(some 84), some (75, true), .pick (.t 77) (.c (.bool true)) (.t 83)⟩,
  ⟨(some 85), none, .pick (.t 75) (.t 84) (.c (.bool false))⟩,
  ⟨(some 6), none, .mv false (.t 85)⟩] (some [6])) (
.ret))))))))
set_option maxRecDepth 1000000 in
theorem comp_law16_GravityTurns : (Tryd.f6.body.bind fun code => compC Tryd.prog Tryd.f6.ntmps code c_law16_GravityTurns) = some c_law16_GravityTurns.bare := by kernel_rfl
def r_law16_GravityTurns : List R := [.t 6]
theorem spo_law16_GravityTurns {ds : List D} {d : D} (hn : Nat.ble ds.length 86 = true) (h : run TSpM gtab 0 c_law16_GravityTurns (retK r_law16_GravityTurns (· = d)) ⟨env0 0 ds, []⟩) : TSp 6 ds d := Sp_of mixed c_law16_GravityTurns r_law16_GravityTurns (fn := Tryd.f6) (by kernel_rfl) (by kernel_rfl) comp_law16_GravityTurns (by kernel_rfl) hn h
theorem spm_law16_GravityTurns {ds : List D} {d : D} {bx bx' : List Ent} (hn : Nat.ble ds.length 86 = true) (h : run TSpM gtab (sizeE bx) c_law16_GravityTurns (retG r_law16_GravityTurns (fun d1 bx1 => Rt (sizeE bx) bx1 d1 d bx')) ⟨env0 0 ds, bx⟩) : TSpM 6 ds bx d bx' := SpM_of mixed c_law16_GravityTurns r_law16_GravityTurns (fn := Tryd.f6) (by kernel_rfl) (by kernel_rfl) comp_law16_GravityTurns (by kernel_rfl) hn h
/-- glazier/glazierlaw16.GravityKeeps -/
def c_law16_GravityKeeps : C := .seq (.reg false [
  ⟨(some 6), none, .box true (.t 1)⟩,
  ⟨(some 7), none, .box true (.t 2)⟩,
  ⟨(some 10), none, .mv false (.c (.bool false))⟩] (some [0, 3, 4, 6, 7])) (
.seq (.seq (.reg false [
  ⟨(some 16), none, .call false 9 []⟩,
  ⟨(some 17), none, .not (.t 16)⟩] (some [0, 3, 4, 6, 7, 17])) (
.ite (.t 17) (
  .seq (.reg false [
    ⟨(some 10), none, .mv false (.c (.bool false))⟩] (some [10])) (
  .ret)) (
  .skip))) (
.seq (.reg false [
  ⟨(some 19), none, .mv false (.t 0)⟩,
  ⟨(some 20), none, .ld (some 4) (.t 6)⟩,
  ⟨(some 21), none, .ld (some 4) (.t 7)⟩,
  ⟨(some 22), none, .call false 12 [(.t 19), (.t 20), (.t 21)]⟩,
  ⟨(some 18), none, .mv false (.t 22)⟩,
  ⟨(some 23), none, .ext (.t 18) 0⟩,
  ⟨(some 24), none, .ext (.t 18) 1⟩,
  ⟨(some 25), none, .ext (.t 18) 2⟩,
  ⟨(some 11), none, .alloc [(.int .i64 0), (.int .i64 0)]⟩,
  ⟨(some 12), none, .alloc [(.int .i64 0), (.int .i64 0), (.int .i64 0), (.int .i64 0)]⟩,
  ⟨none, none, .st (some 2) (.t 11) (.t 23)⟩,
  ⟨none, none, .st (some 4) (.t 12) (.t 24)⟩,
  ⟨(some 13), none, .mv false (.t 25)⟩] (some [3, 4, 6, 7, 11, 12, 13])) (
.seq (.seq (.reg false [
  ⟨(some 26), none, .mv false (.t 13)⟩,
  ⟨(some 27), none, .not (.t 26)⟩] (some [3, 4, 6, 7, 11, 12, 27])) (
.ite (.t 27) (
  .seq (.reg false [
    ⟨(some 28), none, .ld (some 2) (.t 11)⟩,
    ⟨(some 29), none, .bld [(.int .i64 0), (.int .i64 0)] []⟩,
    ⟨(some 30), none, .eqS false [.i .i64, .i .i64] (.t 28) (.t 29)⟩,
    ⟨(some 31), none, .mv false (.t 30)⟩,
    ⟨(some 32), some (31, true), .ld (some 4) (.t 12)⟩,
    ⟨(some 33), some (31, true), .bld [(.int .i64 0), (.int .i64 0), (.int .i64 0), (.int .i64 0)] []⟩,
    ⟨(some 34), some (31, true), .eqS false [.i .i64, .i .i64, .i .i64, .i .i64] (.t 32) (.t 33)⟩,
    ⟨(some 35), none, .pick (.t 31) (.t 34) (.c (.bool false))⟩,
    ⟨(some 10), none, .mv false (.t 35)⟩] (some [10])) (
  .ret)) (
  .skip))) (
.seq (.seq (.reg false [
  ⟨(some 36), none, .ld (some 4) (.t 6)⟩,
  ⟨(some 37), none, .call false 14 [(.t 36)]⟩,
  ⟨(some 38), none, .not (.t 37)⟩,
  ⟨(some 39), none, .mv false (.t 38)⟩,
  ⟨(some 40), some (39, false), .ld (some 4) (.t 7)⟩,
  ⟨(some 41), some (39, false), .call false 14 [(.t 40)]⟩,
  ⟨(some 42), some (39, false), .not (.t 41)⟩,
  ⟨(some 43), none, .pick (.t 39) (.c (.bool true)) (.t 42)⟩] (some [3, 4, 6, 7, 11, 12, 43])) (
.ite (.t 43) (
  .seq (.reg false [
    ⟨(some 10), none, .mv false (.c (.bool false))⟩] (some [10])) (
  .ret)) (
  .skip))) (
.seq (.reg false [
  ⟨(some 44), none, .fld 2 (.t 7)⟩,
  ⟨(some 45), none, .ld none (.t 44)⟩,
  ⟨(some 46), none, .fld 3 (.t 7)⟩,
  ⟨(some 47), none, .ld none (.t 46)⟩,
  ⟨(some 48), none, .bld [(.int .i64 0), (.int .i64 0), (.int .i64 0), (.int .i64 0)] [(2, none, (.t 45)), (3, none, (.t 47))]⟩,
  ⟨(some 49), none, .mv false (.t 3)⟩,
  ⟨(some 50), none, .conv .i64 (.t 49)⟩,
  ⟨(some 51), none, .mv false (.t 4)⟩,
  ⟨(some 52), none, .conv .i64 (.t 51)⟩,
  ⟨(some 53), none, .call false 15 [(.t 48), (.t 50), (.t 52)]⟩,
  ⟨(some 14), none, .mv false (.t 53)⟩] (some [3, 4, 6, 11, 12, 14])) (
.seq (.reg false [
  ⟨(some 54), none, .fld 2 (.t 6)⟩,
  ⟨(some 55), none, .ld none (.t 54)⟩,
  ⟨(some 56), none, .fld 3 (.t 6)⟩,
  ⟨(some 57), none, .ld none (.t 56)⟩,
  ⟨(some 58), none, .bld [(.int .i64 0), (.int .i64 0), (.int .i64 0), (.int .i64 0)] [(2, none, (.t 55)), (3, none, (.t 57))]⟩,
  ⟨(some 59), none, .mv false (.t 3)⟩,
  ⟨(some 60), none, .conv .i64 (.t 59)⟩,
  ⟨(some 61), none, .fld 0 (.t 11)⟩,
  ⟨(some 62), none, .ld none (.t 61)⟩,
  ⟨(some 63), none, .bin .sub .i64 (.t 60) (.t 62)⟩,
  ⟨(some 64), none, .mv false (.t 4)⟩,
  ⟨(some 65), none, .conv .i64 (.t 64)⟩,
  ⟨(some 66), none, .fld 1 (.t 11)⟩,
  ⟨(some 67), none, .ld none (.t 66)⟩,
  ⟨(some 68), none, .bin .sub .i64 (.t 65) (.t 67)⟩,
  ⟨(some 69), none, .call false 15 [(.t 58), (.t 63), (.t 68)]⟩,
  ⟨(some 15), none, .mv false (.t 69)⟩] (some [3, 4, 12, 14, 15])) (
.seq (.reg false [
  ⟨(some 70), none, .ld (some 4) (.t 12)⟩,
  ⟨(some 71), none, .mv false (.t 3)⟩,
  ⟨(some 72), none, .conv .i64 (.t 71)⟩,
  ⟨(some 73), none, .mv false (.t 4)⟩,
  ⟨(some 74), none, .conv .i64 (.t 73)⟩,
  ⟨(some 75), none, .call false 15 [(.t 70), (.t 72), (.t 74)]⟩,
  ⟨(some 76), none, .mv false (.t 14)⟩,
  ⟨(some 77), none, .mv false (.t 76)⟩,
  ⟨(some 78), some (77, true), .mv false (.t 15)⟩,
  ⟨(some 79), none, .pick (.t 77) (.t 78) (.c (.bool false))⟩,
  ⟨(some 80), none, .eqb false false (.t 75) (.t 79)⟩,
  ⟨(some 10), none, .mv false (.t 80)⟩] (some [10])) (
.ret))))))))
set_option maxRecDepth 1000000 in
theorem comp_law16_GravityKeeps : (Tryd.f7.body.bind fun code => compC Tryd.prog Tryd.f7.ntmps code c_law16_GravityKeeps) = some c_law16_GravityKeeps.bare := by kernel_rfl
def r_law16_GravityKeeps : List R := [.t 10]
theorem spo_law16_GravityKeeps {ds : List D} {d : D} (hn : Nat.ble ds.length 81 = true) (h : run TSpM gtab 0 c_law16_GravityKeeps (retK r_law16_GravityKeeps (· = d)) ⟨env0 0 ds, []⟩) : TSp 7 ds d := Sp_of mixed c_law16_GravityKeeps r_law16_GravityKeeps (fn := Tryd.f7) (by kernel_rfl) (by kernel_rfl) comp_law16_GravityKeeps (by kernel_rfl) hn h
theorem spm_law16_GravityKeeps {ds : List D} {d : D} {bx bx' : List Ent} (hn : Nat.ble ds.length 81 = true) (h : run TSpM gtab (sizeE bx) c_law16_GravityKeeps (retG r_law16_GravityKeeps (fun d1 bx1 => Rt (sizeE bx) bx1 d1 d bx')) ⟨env0 0 ds, bx⟩) : TSpM 7 ds bx d bx' := SpM_of mixed c_law16_GravityKeeps r_law16_GravityKeeps (fn := Tryd.f7) (by kernel_rfl) (by kernel_rfl) comp_law16_GravityKeeps (by kernel_rfl) hn h
/-- glazier/glazierlaw16.GravityNames -/
def c_law16_GravityNames : C := .seq (.reg false [
  ⟨(some 4), none, .mv false (.c (.bool false))⟩] (some [0, 1])) (
.seq (.seq (.reg false [
  ⟨(some 13), none, .call false 9 []⟩,
  ⟨(some 14), none, .not (.t 13)⟩] (some [0, 1, 14])) (
.ite (.t 14) (
  .seq (.reg false [
    ⟨(some 4), none, .mv false (.c (.bool false))⟩] (some [4])) (
  .ret)) (
  .skip))) (
.seq (.seq (.reg false [
  ⟨(some 15), none, .mv false (.t 1)⟩,
  ⟨(some 16), none, .len true (.t 15)⟩,
  ⟨(some 17), none, .bin .gtr .i64 (.t 16) (.c (.int .i64 300))⟩] (some [0, 1, 17])) (
.ite (.t 17) (
  .seq (.reg false [
    ⟨(some 4), none, .mv false (.c (.bool true))⟩] (some [4])) (
  .ret)) (
  .skip))) (
.seq (.reg false [
  ⟨(some 18), none, .mv false (.t 0)⟩,
  ⟨(some 19), none, .bin .geq .i64 (.t 18) (.c (.int .i64 0))⟩,
  ⟨(some 20), none, .mv false (.t 19)⟩,
  ⟨(some 21), some (20, true), .mv false (.t 0)⟩,
  ⟨(some 22), some (20, true), .bin .leq .i64 (.t 21) (.c (.int .i64 10))⟩,
  ⟨(some 23), none, .pick (.t 20) (.t 22) (.c (.bool false))⟩,
  ⟨(some 5), none, .mv false (.t 23)⟩] (some [0, 1, 5])) (
.seq (.reg false [
  ⟨(some 24), none, .mv false (.t 0)⟩,
  ⟨(some 25), none, .call false 16 [(.t 24)]⟩,
  ⟨(some 26), none, .mv false (.t 0)⟩,
  ⟨(some 27), none, .call false 17 [(.t 26)]⟩,
  ⟨(some 6), none, .mv false (.t 25)⟩,
  ⟨(some 7), none, .mv false (.t 27)⟩] (some [0, 1, 5, 6, 7])) (
.seq (.seq (.reg false [
  ⟨(some 28), none, .mv false (.t 5)⟩,
  ⟨(some 29), none, .mv false (.t 7)⟩,
  ⟨(some 30), none, .bin .eql .i64 (.t 29) (.c (.int .i64 0))⟩,
  ⟨(some 31), none, .eqb true false (.t 28) (.t 30)⟩,
  ⟨(some 32), none, .mv false (.t 31)⟩,
  ⟨(some 33), some (32, false), .mv false (.t 5)⟩,
  ⟨(some 34), some (32, false), .not (.t 33)⟩,
  ⟨(some 35), some (32, false), .mv false (.t 34)⟩,
  ⟨(some 36), some (35, true), .mv false (.t 7)⟩,
  ⟨(some 37), some (35, true), .bin .neq .i64 (.t 36) (.c (.int .i64 10))⟩,
  ⟨(some 38), some (35, true), .mv false (.t 37)⟩,
  ⟨(some 39), some (38, false), .mv false (.t 6)⟩,
  ⟨(some 40), some (38, false), .eqb true true (.t 39) (.c (.str []))⟩,
  ⟨(some 41), some (35, true), .pick (.t 38) (.c (.bool true)) (.t 40)⟩,
  ⟨(some 42), some (32, false), .pick (.t 35) (.t 41) (.c (.bool false))⟩,
  ⟨(some 43), none, .pick (.t 32) (.c (.bool true)) (.t 42)⟩,
  ⟨(some 44), none, .mv false (.t 43)⟩,
  ⟨(some 45), some (44, false), .mv false (.t 5)⟩,
  ⟨(some 46), some (44, false), .mv false (.t 45)⟩,
  ⟨(some 47), some (46, true), .mv false (.t 6)⟩,
  ⟨(some 48), some (46, true), .call false 18 []⟩,
  ⟨(some 49), some (46, true), .mv false (.t 0)⟩,
  ⟨(some 50), some (46, true), .ixs 1 (.t 48) (.t 49)⟩,
  ⟨(some 51), some (46, true), .ld none (.t 50)⟩,
  ⟨(some 52), some (46, true), .eqb true true (.t 47) (.t 51)⟩,
  ⟨(some 53), some (44, false), .pick (.t 46) (.t 52) (.c (.bool false))⟩,
  ⟨(some 54), none, .pick (.t 44) (.c (.bool true)) (.t 53)⟩] (some [0, 1, 5, 6, 54])) (
.ite (.t 54) (
  .seq (.reg false [
    ⟨(some 4), none, .mv false (.c (.bool false))⟩] (some [4])) (
  .ret)) (
  .skip))) (
.seq (.reg false [
  ⟨(some 56), none, .mv false (.t 1)⟩,
  ⟨(some 57), none, .call false 19 [(.t 56)]⟩,
  ⟨(some 55), none, .mv false (.t 57)⟩,
  ⟨(some 58), none, .ext (.t 55) 0⟩,
  ⟨(some 59), none, .ext (.t 55) 1⟩,
  ⟨(some 8), none, .mv false (.t 58)⟩,
  ⟨(some 9), none, .mv false (.t 59)⟩] (some [0, 1, 5, 6, 8, 9])) (
.seq (.reg false [
  ⟨(some 60), none, .mv false (.t 1)⟩,
  ⟨(some 61), none, .call false 20 [(.t 60)]⟩,
  ⟨(some 10), none, .mv false (.t 61)⟩] (some [0, 5, 6, 8, 9, 10])) (
.seq (.seq (.reg false [
  ⟨(some 62), none, .mv false (.t 9)⟩,
  ⟨(some 63), none, .mv false (.t 10)⟩,
  ⟨(some 64), none, .bin .geq .i64 (.t 63) (.c (.int .i64 0))⟩,
  ⟨(some 65), none, .eqb true false (.t 62) (.t 64)⟩,
  ⟨(some 66), none, .mv false (.t 65)⟩,
  ⟨(some 67), some (66, false), .mv false (.t 9)⟩,
  ⟨(some 68), some (66, false), .mv false (.t 67)⟩,
  ⟨(some 69), some (68, true), .mv false (.t 8)⟩,
  ⟨(some 70), some (68, true), .mv false (.t 10)⟩,
  ⟨(some 71), some (68, true), .bin .neq .i64 (.t 69) (.t 70)⟩,
  ⟨(some 72), some (66, false), .pick (.t 68) (.t 71) (.c (.bool false))⟩,
  ⟨(some 73), none, .pick (.t 66) (.c (.bool true)) (.t 72)⟩,
  ⟨(some 74), none, .mv false (.t 73)⟩,
  ⟨(some 75), some (74, false), .mv false (.t 9)⟩,
  ⟨(some 76), some (74, false), .not (.t 75)⟩,
  ⟨(some 77), some (74, false), .mv false (.t 76)⟩,
  ⟨(some 78), some (77, true), .mv false (.t 8)⟩,
  ⟨(some 79), some (77, true), .bin .neq .i64 (.t 78) (.c (.int .i64 0))⟩,
  ⟨(some 80), some (74, false), .pick (.t 77) (.t 79) (.c (.bool false))⟩,
  ⟨(some 81), none, .pick (.t 74) (.c (.bool true)) (.t 80)⟩] (some [0, 5, 6, 81])) (
.ite (.t 81) (
  .seq (.reg false [
    ⟨(some 4), none, .mv false (.c (.bool false))⟩] (some [4])) (
  .ret)) (
  .skip))) (
.seq (.reg false [
  ⟨(some 83), none, .mv false (.t 6)⟩,
  ⟨(some 84), none, .call false 19 [(.t 83)]⟩,
  ⟨(some 82), none, .mv false (.t 84)⟩,
  ⟨(some 85), none, .ext (.t 82) 0⟩,
  ⟨(some 86), none, .ext (.t 82) 1⟩,
  ⟨(some 11), none, .mv false (.t 85)⟩,
  ⟨(some 12), none, .mv false (.t 86)⟩] (some [0, 5, 11, 12])) (
.seq (.reg false [
  ⟨(some 87), none, .mv false (.t 12)⟩,
  ⟨(some 88), none, .mv false (.t 5)⟩,
  ⟨(some 89), none, .eqb false false (.t 87) (.t 88)⟩,
  ⟨(some 90), none, .mv false (.t 89)⟩,
  ⟨(some 91), some (90, true), .mv false (.t 5)⟩,
  ⟨(some 92), some (90, true), .not (.t 91)⟩,
  ⟨(some 93), some (90, true), .mv false (.t 92)⟩,
  ⟨(some 94), some (93, false), .mv false (.t 11)⟩,
  ⟨(some 95), some (93, false), .mv false (.t 0)⟩,
  ⟨(some 96), some (93, false), .bin .eql .i64 (.t 94) (.t 95)⟩,
  ⟨(some 97), some (90, true), .pick (.t 93) (.c (.bool true)) (.t 96)⟩,
  ⟨(some 98), none, .pick (.t 90) (.t 97) (.c (.bool false))⟩,
  ⟨(some 4), none, .mv false (.t 98)⟩] (some [4])) (
.ret)))))))))))
set_option maxRecDepth 1000000 in
theorem comp_law16_GravityNames : (Tryd.f8.body.bind fun code => compC Tryd.prog Tryd.f8.ntmps code c_law16_GravityNames) = some c_law16_GravityNames.bare := by kernel_rfl
def r_law16_GravityNames : List R := [.t 4]
theorem spo_law16_GravityNames {ds : List D} {d : D} (hn : Nat.ble ds.length 99 = true) (h : run TSpM gtab 0 c_law16_GravityNames (retK r_law16_GravityNames (· = d)) ⟨env0 0 ds, []⟩) : TSp 8 ds d := Sp_of mixed c_law16_GravityNames r_law16_GravityNames (fn := Tryd.f8) (by kernel_rfl) (by kernel_rfl) comp_law16_GravityNames (by kernel_rfl) hn h
theorem spm_law16_GravityNames {ds : List D} {d : D} {bx bx' : List Ent} (hn : Nat.ble ds.length 99 = true) (h : run TSpM gtab (sizeE bx) c_law16_GravityNames (retG r_law16_GravityNames (fun d1 bx1 => Rt (sizeE bx) bx1 d1 d bx')) ⟨env0 0 ds, bx⟩) : TSpM 8 ds bx d bx' := SpM_of mixed c_law16_GravityNames r_law16_GravityNames (fn := Tryd.f8) (by kernel_rfl) (by kernel_rfl) comp_law16_GravityNames (by kernel_rfl) hn h
/-- glazier/glazierlaw16.awake -/
def c_law16_awake : C := .seq (.reg false [
  ⟨(some 0), none, .mv false (.c (.bool false))⟩] (some [])) (
.seq (.reg false [
  ⟨(some 9), none, .bld [(.int .i64 0), (.int .i64 0), (.int .i64 0), (.int .i64 0)] [(0, none, (.c (.int .i64 10))), (1, none, (.c (.int .i64 10))), (2, none, (.c (.int .i64 4))), (3, none, (.c (.int .i64 4)))]⟩,
  ⟨(some 1), none, .alloc [(.int .i64 0), (.int .i64 0), (.int .i64 0), (.int .i64 0)]⟩,
  ⟨none, none, .st (some 4) (.t 1) (.t 9)⟩] (some [1])) (
.seq (.reg false [
  ⟨(some 11), none, .ld (some 4) (.t 1)⟩,
  ⟨(some 12), none, .bld [(.int .i64 0), (.int .i64 0), (.int .i64 0), (.int .i64 0)] [(0, none, (.c (.int .i64 8))), (1, none, (.c (.int .i64 10))), (2, none, (.c (.int .i64 7))), (3, none, (.c (.int .i64 4)))]⟩,
  ⟨(some 13), none, .call false 12 [(.c (.int .i64 6)), (.t 11), (.t 12)]⟩,
  ⟨(some 10), none, .mv false (.t 13)⟩,
  ⟨(some 14), none, .ext (.t 10) 0⟩,
  ⟨(some 15), none, .ext (.t 10) 1⟩,
  ⟨(some 16), none, .ext (.t 10) 2⟩,
  ⟨(some 2), none, .alloc [(.int .i64 0), (.int .i64 0)]⟩,
  ⟨(some 3), none, .alloc [(.int .i64 0), (.int .i64 0), (.int .i64 0), (.int .i64 0)]⟩,
  ⟨none, none, .st (some 2) (.t 2) (.t 14)⟩,
  ⟨none, none, .st (some 4) (.t 3) (.t 15)⟩,
  ⟨(some 4), none, .mv false (.t 16)⟩] (some [1, 2, 3, 4])) (
.seq (.reg false [
  ⟨(some 18), none, .ld (some 4) (.t 1)⟩,
  ⟨(some 19), none, .bld [(.int .i64 0), (.int .i64 0), (.int .i64 0), (.int .i64 0)] [(0, none, (.c (.int .i64 8))), (1, none, (.c (.int .i64 10))), (2, none, (.c (.int .i64 7))), (3, none, (.c (.int .i64 4)))]⟩,
  ⟨(some 20), none, .call false 10 [(.c (.int .i64 10)), (.t 18), (.t 19)]⟩,
  ⟨(some 17), none, .mv false (.t 20)⟩,
  ⟨(some 21), none, .ext (.t 17) 0⟩,
  ⟨(some 22), none, .ext (.t 17) 1⟩,
  ⟨(some 5), none, .alloc [(.int .i64 0), (.int .i64 0)]⟩,
  ⟨none, none, .st (some 2) (.t 5) (.t 21)⟩,
  ⟨(some 6), none, .mv false (.t 22)⟩] (some [1, 2, 3, 4, 5, 6])) (
.seq (.reg false [
  ⟨(some 24), none, .ld (some 4) (.t 1)⟩,
  ⟨(some 25), none, .bld [(.int .i64 0), (.int .i64 0), (.int .i64 0), (.int .i64 0)] [(0, none, (.c (.int .i64 10))), (1, none, (.c (.int .i64 10))), (2, none, (.c (.int .i64 1))), (3, none, (.c (.int .i64 4)))]⟩,
  ⟨(some 26), none, .call false 10 [(.c (.int .i64 2)), (.t 24), (.t 25)]⟩,
  ⟨(some 23), none, .mv false (.t 26)⟩,
  ⟨(some 27), none, .ext (.t 23) 0⟩,
  ⟨(some 28), none, .ext (.t 23) 1⟩,
  ⟨(some 7), none, .alloc [(.int .i64 0), (.int .i64 0)]⟩,
  ⟨none, none, .st (some 2) (.t 7) (.t 27)⟩,
  ⟨(some 8), none, .mv false (.t 28)⟩] (some [2, 3, 4, 5, 6, 7, 8])) (
.seq (.reg false [
  ⟨(some 29), none, .mv false (.t 4)⟩,
  ⟨(some 30), none, .mv false (.t 29)⟩,
  ⟨(some 31), some (30, true), .mv false (.t 6)⟩,
  ⟨(some 32), none, .pick (.t 30) (.t 31) (.c (.bool false))⟩,
  ⟨(some 33), none, .mv false (.t 32)⟩,
  ⟨(some 34), some (33, true), .mv false (.t 8)⟩,
  ⟨(some 35), none, .pick (.t 33) (.t 34) (.c (.bool false))⟩,
  ⟨(some 36), none, .mv false (.t 35)⟩,
  ⟨(some 37), some (36, true), .ld (some 2) (.t 2)⟩,
  ⟨(some 38), some (36, true), .bld [(.int .i64 0), (.int .i64 0)] [(0, none, (.c (.int .i64 3)))]⟩,
  ⟨(some 39), some (36, true), .eqS false [.i .i64, .i .i64] (.t 37) (.t 38)⟩,
  ⟨(some 40), none, .pick (.t 36) (.t 39) (.c (.bool false))⟩,
  ⟨(some 41), none, .mv false (.t 40)⟩,
  ⟨(some 42), some (41, true), .ld (some 4) (.t 3)⟩,
  ⟨(some 43), some (41, true), .bld [(.int .i64 0), (.int .i64 0), (.int .i64 0), (.int .i64 0)] [(0, none, (.c (.int .i64 3))), (2, none, (.c (.int .i64 4))), (3, none, (.c (.int .i64 4)))]⟩,
  ⟨(some 44), some (41, true), .eqS false [.i .i64, .i .i64, .i .i64, .i .i64] (.t 42) (.t 43)⟩,
  ⟨(some 45), none, .pick (.t 41) (.t 44) (.c (.bool false))⟩,
  ⟨(some 46), none, .mv false (.t 45)⟩,
  ⟨(some 47), some (46, true), .ld (some 2) (.t 5)⟩,
  ⟨(some 48), some (46, true), .bld [(.int .i64 0), (.int .i64 0)] [(0, none, (.c (.int .i64 2)))]⟩,
  ⟨(some 49), some (46, true), .eqS false [.i .i64, .i .i64] (.t 47) (.t 48)⟩,
  ⟨(some 50), none, .pick (.t 46) (.t 49) (.c (.bool false))⟩,
  ⟨(some 51), none, .mv false (.t 50)⟩,
  ⟨(some 52), some (51, true), .ld (some 2) (.t 7)⟩,
  ⟨(some 53), some (51, true), .bld [(.int .i64 0), (.int .i64 0)] [(0, none, (.c (.int .i64 (-2))))]⟩,
  ⟨(some 54), some (51, true), .eqS false [.i .i64, .i .i64] (.t 52) (.t 53)⟩,
  ⟨(some 55), none, .pick (.t 51) (.t 54) (.c (.bool false))⟩,
  ⟨(some 56), none, .mv false (.t 55)⟩,
  ⟨(some 57), some (56, true), .call false 16 [(.c (.int .i64 5))]⟩,
  ⟨(some 58), some (56, true), .eqb false true (.t 57) (.c (.str [99, 101, 110, 116, 101, 114]))⟩,
  ⟨(some 59), none, .pick (.t 56) (.t 58) (.c (.bool false))⟩,
  ⟨(some 0), none, .mv false (.t 59)⟩] (some [0])) (
.ret))))))
set_option maxRecDepth 1000000 in
theorem comp_law16_awake : (Tryd.f9.body.bind fun code => compC Tryd.prog Tryd.f9.ntmps code c_law16_awake) = some c_law16_awake.bare := by kernel_rfl
def r_law16_awake : List R := [.t 0]
theorem spo_law16_awake {ds : List D} {d : D} (hn : Nat.ble ds.length 60 = true) (h : run TSpM gtab 0 c_law16_awake (retK r_law16_awake (· = d)) ⟨env0 0 ds, []⟩) : TSp 9 ds d := Sp_of mixed c_law16_awake r_law16_awake (fn := Tryd.f9) (by kernel_rfl) (by kernel_rfl) comp_law16_awake (by kernel_rfl) hn h
theorem spm_law16_awake {ds : List D} {d : D} {bx bx' : List Ent} (hn : Nat.ble ds.length 60 = true) (h : run TSpM gtab (sizeE bx) c_law16_awake (retG r_law16_awake (fun d1 bx1 => Rt (sizeE bx) bx1 d1 d bx')) ⟨env0 0 ds, bx⟩) : TSpM 9 ds bx d bx' := SpM_of mixed c_law16_awake r_law16_awake (fn := Tryd.f9) (by kernel_rfl) (by kernel_rfl) comp_law16_awake (by kernel_rfl) hn h
/-- glazier/gravity.Shift -/
def c_gravity_Shift : C := .seq (.reg false [
  ⟨(some 4), none, .box true (.t 1)⟩,
  ⟨(some 5), none, .box true (.t 2)⟩,
  ⟨(some 6), none, .alloc [(.int .i64 0), (.int .i64 0)]⟩,
  ⟨(some 7), none, .mv false (.c (.bool false))⟩] (some [0, 4, 5, 6])) (
.seq (.seq (.reg false [
  ⟨(some 9), none, .mv false (.t 0)⟩,
  ⟨(some 10), none, .bin .eql .i64 (.t 9) (.c (.int .i64 0))⟩,
  ⟨(some 11), none, .mv false (.t 10)⟩,
  ⟨(some 12), some (11, false), .mv false (.t 0)⟩,
  ⟨(some 13), some (11, false), .call false 17 [(.t 12)]⟩,
  ⟨(some 14), some (11, false), .bin .neq .i64 (.t 13) (.c (.int .i64 0))⟩,
  ⟨(some 15), none, .pick (.t 11) (.c (.bool true)) (.t 14)⟩,
  ⟨(some 16), none, .mv false (.t 15)⟩,
  ⟨(some 17), some (16, false), .ld (some 4) (.t 4)⟩,
  ⟨(some 18), some (16, false), .call false 21 [(.t 17)]⟩,
  ⟨(some 19), none, .pick (.t 16) (.c (.bool true)) (.t 18)⟩,
  ⟨(some 20), none, .mv false (.t 19)⟩,
  ⟨(some 21), some (20, false), .ld (some 4) (.t 5)⟩,
  ⟨(some 22), some (20, false), .call false 21 [(.t 21)]⟩,
  ⟨(some 23), none, .pick (.t 20) (.c (.bool true)) (.t 22)⟩] (some [0, 4, 5, 6, 23])) (
.ite (.t 23) (
  .seq (.reg false [
    ⟨(some 24), none, .bld [(.int .i64 0), (.int .i64 0)] []⟩,
    ⟨none, none, .st (some 2) (.t 6) (.t 24)⟩,
    ⟨(some 7), none, .mv false (.c (.bool false))⟩] (some [6, 7])) (
  .ret)) (
  .skip))) (
.seq (.seq (.reg false [
  ⟨(some 25), none, .mv false (.t 0)⟩,
  ⟨(some 26), none, .bin .eql .i64 (.t 25) (.c (.int .i64 10))⟩] (some [0, 4, 5, 6, 26])) (
.ite (.t 26) (
  .seq (.reg false [
    ⟨(some 27), none, .fld 0 (.t 4)⟩,
    ⟨(some 28), none, .ld none (.t 27)⟩,
    ⟨(some 29), none, .fld 0 (.t 5)⟩,
    ⟨(some 30), none, .ld none (.t 29)⟩,
    ⟨(some 31), none, .bin .sub .i64 (.t 28) (.t 30)⟩,
    ⟨(some 32), none, .fld 1 (.t 4)⟩,
    ⟨(some 33), none, .ld none (.t 32)⟩,
    ⟨(some 34), none, .fld 1 (.t 5)⟩,
    ⟨(some 35), none, .ld none (.t 34)⟩,
    ⟨(some 36), none, .bin .sub .i64 (.t 33) (.t 35)⟩,
    ⟨(some 37), none, .bld [(.int .i64 0), (.int .i64 0)] [(0, none, (.t 31)), (1, none, (.t 36))]⟩,
    ⟨none, none, .st (some 2) (.t 6) (.t 37)⟩,
    ⟨(some 7), none, .mv false (.c (.bool true))⟩] (some [6, 7])) (
  .ret)) (
  .skip))) (
.seq (.reg false [
  ⟨(some 38), none, .mv false (.t 0)⟩,
  ⟨(some 39), none, .ixa 10 2 (.c (.glob 0 0)) (.t 38)⟩,
  ⟨(some 40), none, .ld (some 2) (.t 39)⟩,
  ⟨(some 8), none, .alloc [(.int .i64 0), (.int .i64 0)]⟩,
  ⟨none, none, .st (some 2) (.t 8) (.t 40)⟩] (some [4, 5, 6, 8])) (
.seq (.reg true [
  ⟨(some 41), none, .fld 2 (.t 5)⟩,
  ⟨(some 42), none, .ld none (.t 41)⟩,
  ⟨(some 43), none, .fld 2 (.t 4)⟩,
  ⟨(some 44), none, .ld none (.t 43)⟩,
  ⟨(some 45), none, .bin .sub .i64 (.t 42) (.t 44)⟩,
  ⟨(some 46), none, .ixa 2 1 (.t 8) (.c (.int .i64 0))⟩,
  ⟨(some 47), none, .ld none (.t 46)⟩,
  ⟨(some 48), none, .call false 22 [(.t 45), (.t 47)]⟩,
  ⟨(some 49), none, .fld 3 (.t 5)⟩,
  ⟨(some 50), none, .ld none (.t 49)⟩,
  ⟨(some 51), none, .fld 3 (.t 4)⟩,
  ⟨(some 52), none, .ld none (.t 51)⟩,
  ⟨(some 53), none, .bin .sub .i64 (.t 50) (.t 52)⟩,
  ⟨(some 54), none, .ixa 2 1 (.t 8) (.c (.int .i64 1))⟩,
  ⟨(some 55), none, .ld none (.t 54)⟩,
  ⟨(some 56), none, .call false 22 [(.t 53), (.t 55)]⟩,
  ⟨(some 57), none, .bld [(.int .i64 0), (.int .i64 0)] [(0, none, (.t 48)), (1, none, (.t 56))]⟩,
  ⟨none, none, .st (some 2) (.t 6) (.t 57)⟩,
  ⟨(some 7), none, .mv false (.c (.bool true))⟩] (some [6, 7])) (
.ret)))))
set_option maxRecDepth 1000000 in
theorem comp_gravity_Shift : (Tryd.f10.body.bind fun code => compC Tryd.prog Tryd.f10.ntmps code c_gravity_Shift) = some c_gravity_Shift.bare := by kernel_rfl
def r_gravity_Shift : List R := [.cell 6 (some 2), .t 7]
theorem spo_gravity_Shift {ds : List D} {d : D} (hn : Nat.ble ds.length 58 = true) (h : run TSpM gtab 0 c_gravity_Shift (retK r_gravity_Shift (· = d)) ⟨env0 0 ds, []⟩) : TSp 10 ds d := Sp_of mixed c_gravity_Shift r_gravity_Shift (fn := Tryd.f10) (by kernel_rfl) (by kernel_rfl) comp_gravity_Shift (by kernel_rfl) hn h
theorem spm_gravity_Shift {ds : List D} {d : D} {bx bx' : List Ent} (hn : Nat.ble ds.length 58 = true) (h : run TSpM gtab (sizeE bx) c_gravity_Shift (retG r_gravity_Shift (fun d1 bx1 => Rt (sizeE bx) bx1 d1 d bx')) ⟨env0 0 ds, bx⟩) : TSpM 10 ds bx d bx' := SpM_of mixed c_gravity_Shift r_gravity_Shift (fn := Tryd.f10) (by kernel_rfl) (by kernel_rfl) comp_gravity_Shift (by kernel_rfl) hn h
/-- glazier/glazierref16.Shift -/
def c_ref16_Shift : C := .seq (.reg false [
  ⟨(some 4), none, .box true (.t 1)⟩,
  ⟨(some 5), none, .box true (.t 2)⟩,
  ⟨(some 6), none, .alloc [(.int .i64 0), (.int .i64 0)]⟩,
  ⟨(some 7), none, .mv false (.c (.bool false))⟩] (some [0, 4, 5, 6])) (
.seq (.seq (.reg false [
  ⟨(some 8), none, .mv false (.t 0)⟩,
  ⟨(some 9), none, .bin .lss .i64 (.t 8) (.c (.int .i64 1))⟩,
  ⟨(some 10), none, .mv false (.t 9)⟩,
  ⟨(some 11), some (10, false), .mv false (.t 0)⟩,
  ⟨(some 12), some (10, false), .bin .gtr .i64 (.t 11) (.c (.int .i64 10))⟩,
  ⟨(some 13), none, .pick (.t 10) (.c (.bool true)) (.t 12)⟩,
  ⟨(some 14), none, .mv false (.t 13)⟩,
  ⟨(some 15), some (14, false), .ld (some 4) (.t 4)⟩,
  ⟨(some 16), some (14, false), .call false 23 [(.t 15)]⟩,
  ⟨(some 17), some (14, false), .not (.t 16)⟩,
  ⟨(some 18), none, .pick (.t 14) (.c (.bool true)) (.t 17)⟩,
  ⟨(some 19), none, .mv false (.t 18)⟩,
  ⟨(some 20), some (19, false), .ld (some 4) (.t 5)⟩,
  ⟨(some 21), some (19, false), .call false 23 [(.t 20)]⟩,
  ⟨(some 22), some (19, false), .not (.t 21)⟩,
  ⟨(some 23), none, .pick (.t 19) (.c (.bool true)) (.t 22)⟩] (some [0, 4, 5, 6, 23])) (
.ite (.t 23) (
  .seq (.reg false [
    ⟨(some 24), none, .bld [(.int .i64 0), (.int .i64 0)] []⟩,
    ⟨none, none, .st (some 2) (.t 6) (.t 24)⟩,
    ⟨(some 7), none, .mv false (.c (.bool false))⟩] (some [6, 7])) (
  .ret)) (
  .skip))) (
.seq (.seq (.reg false [
  ⟨(some 25), none, .mv false (.t 0)⟩,
  ⟨(some 26), none, .bin .eql .i64 (.t 25) (.c (.int .i64 10))⟩] (some [0, 4, 5, 6, 26])) (
.ite (.t 26) (
  .seq (.reg false [
    ⟨(some 27), none, .fld 0 (.t 4)⟩,
    ⟨(some 28), none, .ld none (.t 27)⟩,
    ⟨(some 29), none, .fld 0 (.t 5)⟩,
    ⟨(some 30), none, .ld none (.t 29)⟩,
    ⟨(some 31), none, .bin .sub .i64 (.t 28) (.t 30)⟩,
    ⟨(some 32), none, .fld 1 (.t 4)⟩,
    ⟨(some 33), none, .ld none (.t 32)⟩,
    ⟨(some 34), none, .fld 1 (.t 5)⟩,
    ⟨(some 35), none, .ld none (.t 34)⟩,
    ⟨(some 36), none, .bin .sub .i64 (.t 33) (.t 35)⟩,
    ⟨(some 37), none, .bld [(.int .i64 0), (.int .i64 0)] [(0, none, (.t 31)), (1, none, (.t 36))]⟩,
    ⟨none, none, .st (some 2) (.t 6) (.t 37)⟩,
    ⟨(some 7), none, .mv false (.c (.bool true))⟩] (some [6, 7])) (
  .ret)) (
  .skip))) (
.seq (.reg true [
  ⟨(some 38), none, .fld 2 (.t 5)⟩,
  ⟨(some 39), none, .ld none (.t 38)⟩,
  ⟨(some 40), none, .fld 2 (.t 4)⟩,
  ⟨(some 41), none, .ld none (.t 40)⟩,
  ⟨(some 42), none, .bin .sub .i64 (.t 39) (.t 41)⟩,
  ⟨(some 43), none, .mv false (.t 0)⟩,
  ⟨(some 44), none, .bin .sub .i64 (.t 43) (.c (.int .i64 1))⟩,
  ⟨(some 45), none, .bin .rem .i64 (.t 44) (.c (.int .i64 3))⟩,
  ⟨(some 46), none, .call false 24 [(.t 42), (.t 45)]⟩,
  ⟨(some 47), none, .fld 3 (.t 5)⟩,
  ⟨(some 48), none, .ld none (.t 47)⟩,
  ⟨(some 49), none, .fld 3 (.t 4)⟩,
  ⟨(some 50), none, .ld none (.t 49)⟩,
  ⟨(some 51), none, .bin .sub .i64 (.t 48) (.t 50)⟩,
  ⟨(some 52), none, .mv false (.t 0)⟩,
  ⟨(some 53), none, .bin .sub .i64 (.t 52) (.c (.int .i64 1))⟩,
  ⟨(some 54), none, .bin .quo .i64 (.t 53) (.c (.int .i64 3))⟩,
  ⟨(some 55), none, .call false 24 [(.t 51), (.t 54)]⟩,
  ⟨(some 56), none, .bld [(.int .i64 0), (.int .i64 0)] [(0, none, (.t 46)), (1, none, (.t 55))]⟩,
  ⟨none, none, .st (some 2) (.t 6) (.t 56)⟩,
  ⟨(some 7), none, .mv false (.c (.bool true))⟩] (some [6, 7])) (
.ret))))
set_option maxRecDepth 1000000 in
theorem comp_ref16_Shift : (Tryd.f11.body.bind fun code => compC Tryd.prog Tryd.f11.ntmps code c_ref16_Shift) = some c_ref16_Shift.bare := by kernel_rfl
def r_ref16_Shift : List R := [.cell 6 (some 2), .t 7]
theorem spo_ref16_Shift {ds : List D} {d : D} (hn : Nat.ble ds.length 57 = true) (h : run TSpM gtab 0 c_ref16_Shift (retK r_ref16_Shift (· = d)) ⟨env0 0 ds, []⟩) : TSp 11 ds d := Sp_of mixed c_ref16_Shift r_ref16_Shift (fn := Tryd.f11) (by kernel_rfl) (by kernel_rfl) comp_ref16_Shift (by kernel_rfl) hn h
theorem spm_ref16_Shift {ds : List D} {d : D} {bx bx' : List Ent} (hn : Nat.ble ds.length 57 = true) (h : run TSpM gtab (sizeE bx) c_ref16_Shift (retG r_ref16_Shift (fun d1 bx1 => Rt (sizeE bx) bx1 d1 d bx')) ⟨env0 0 ds, bx⟩) : TSpM 11 ds bx d bx' := SpM_of mixed c_ref16_Shift r_ref16_Shift (fn := Tryd.f11) (by kernel_rfl) (by kernel_rfl) comp_ref16_Shift (by kernel_rfl) hn h
/-- glazier/gravity.Kept -/
def c_gravity_Kept : C := .seq (.reg false [
  ⟨(some 4), none, .box true (.t 1)⟩,
  ⟨(some 5), none, .box true (.t 2)⟩,
  ⟨(some 6), none, .alloc [(.int .i64 0), (.int .i64 0)]⟩,
  ⟨(some 7), none, .alloc [(.int .i64 0), (.int .i64 0), (.int .i64 0), (.int .i64 0)]⟩,
  ⟨(some 8), none, .mv false (.c (.bool false))⟩] (some [0, 4, 5, 6, 7])) (
.seq (.reg false [
  ⟨(some 16), none, .mv false (.t 0)⟩,
  ⟨(some 17), none, .ld (some 4) (.t 4)⟩,
  ⟨(some 18), none, .ld (some 4) (.t 5)⟩,
  ⟨(some 19), none, .call false 10 [(.t 16), (.t 17), (.t 18)]⟩,
  ⟨(some 15), none, .mv false (.t 19)⟩,
  ⟨(some 20), none, .ext (.t 15) 0⟩,
  ⟨(some 21), none, .ext (.t 15) 1⟩,
  ⟨(some 9), none, .alloc [(.int .i64 0), (.int .i64 0)]⟩,
  ⟨none, none, .st (some 2) (.t 9) (.t 20)⟩,
  ⟨(some 10), none, .mv false (.t 21)⟩] (some [4, 5, 6, 7, 9, 10])) (
.seq (.seq (.reg false [
  ⟨(some 22), none, .mv false (.t 10)⟩,
  ⟨(some 23), none, .not (.t 22)⟩] (some [4, 5, 6, 7, 9, 23])) (
.ite (.t 23) (
  .seq (.reg false [
    ⟨(some 24), none, .bld [(.int .i64 0), (.int .i64 0)] []⟩,
    ⟨(some 25), none, .bld [(.int .i64 0), (.int .i64 0), (.int .i64 0), (.int .i64 0)] []⟩,
    ⟨none, none, .st (some 2) (.t 6) (.t 24)⟩,
    ⟨none, none, .st (some 4) (.t 7) (.t 25)⟩,
    ⟨(some 8), none, .mv false (.c (.bool false))⟩] (some [6, 7, 8])) (
  .ret)) (
  .skip))) (
.seq (.reg false [
  ⟨(some 27), none, .fld 2 (.t 4)⟩,
  ⟨(some 28), none, .ld none (.t 27)⟩,
  ⟨(some 29), none, .fld 2 (.t 5)⟩,
  ⟨(some 30), none, .ld none (.t 29)⟩,
  ⟨(some 31), none, .fld 0 (.t 9)⟩,
  ⟨(some 32), none, .ld none (.t 31)⟩,
  ⟨(some 33), none, .call false 25 [(.t 28), (.t 30), (.t 32)]⟩,
  ⟨(some 26), none, .mv false (.t 33)⟩,
  ⟨(some 34), none, .ext (.t 26) 0⟩,
  ⟨(some 35), none, .ext (.t 26) 1⟩,
  ⟨(some 11), none, .mv false (.t 34)⟩,
  ⟨(some 12), none, .mv false (.t 35)⟩] (some [4, 5, 6, 7, 9, 11, 12])) (
.seq (.reg false [
  ⟨(some 37), none, .fld 3 (.t 4)⟩,
  ⟨(some 38), none, .ld none (.t 37)⟩,
  ⟨(some 39), none, .fld 3 (.t 5)⟩,
  ⟨(some 40), none, .ld none (.t 39)⟩,
  ⟨(some 41), none, .fld 1 (.t 9)⟩,
  ⟨(some 42), none, .ld none (.t 41)⟩,
  ⟨(some 43), none, .call false 25 [(.t 38), (.t 40), (.t 42)]⟩,
  ⟨(some 36), none, .mv false (.t 43)⟩,
  ⟨(some 44), none, .ext (.t 36) 0⟩,
  ⟨(some 45), none, .ext (.t 36) 1⟩,
  ⟨(some 13), none, .mv false (.t 44)⟩,
  ⟨(some 14), none, .mv false (.t 45)⟩] (some [6, 7, 9, 11, 12, 13, 14])) (
.seq (.seq (.reg false [
  ⟨(some 46), none, .mv false (.t 12)⟩,
  ⟨(some 47), none, .bin .lss .i64 (.t 46) (.c (.int .i64 1))⟩,
  ⟨(some 48), none, .mv false (.t 47)⟩,
  ⟨(some 49), some (48, false), .mv false (.t 14)⟩,
  ⟨(some 50), some (48, false), .bin .lss .i64 (.t 49) (.c (.int .i64 1))⟩,
  ⟨(some 51), none, .pick (.t 48) (.c (.bool true)) (.t 50)⟩] (some [6, 7, 9, 11, 12, 13, 14, 51])) (
.ite (.t 51) (
  .seq (.reg false [
    ⟨(some 52), none, .ld (some 2) (.t 9)⟩,
    ⟨(some 53), none, .bld [(.int .i64 0), (.int .i64 0), (.int .i64 0), (.int .i64 0)] []⟩,
    ⟨none, none, .st (some 2) (.t 6) (.t 52)⟩,
    ⟨none, none, .st (some 4) (.t 7) (.t 53)⟩,
    ⟨(some 8), none, .mv false (.c (.bool true))⟩] (some [6, 7, 8])) (
  .ret)) (
  .skip))) (
.seq (.reg false [
  ⟨(some 54), none, .ld (some 2) (.t 9)⟩,
  ⟨(some 55), none, .mv false (.t 11)⟩,
  ⟨(some 56), none, .mv false (.t 13)⟩,
  ⟨(some 57), none, .mv false (.t 12)⟩,
  ⟨(some 58), none, .mv false (.t 14)⟩,
  ⟨(some 59), none, .bld [(.int .i64 0), (.int .i64 0), (.int .i64 0), (.int .i64 0)] [(0, none, (.t 55)), (1, none, (.t 56)), (2, none, (.t 57)), (3, none, (.t 58))]⟩,
  ⟨none, none, .st (some 2) (.t 6) (.t 54)⟩,
  ⟨none, none, .st (some 4) (.t 7) (.t 59)⟩,
  ⟨(some 8), none, .mv false (.c (.bool true))⟩] (some [6, 7, 8])) (
.ret)))))))
set_option maxRecDepth 1000000 in
theorem comp_gravity_Kept : (Tryd.f12.body.bind fun code => compC Tryd.prog Tryd.f12.ntmps code c_gravity_Kept) = some c_gravity_Kept.bare := by kernel_rfl
def r_gravity_Kept : List R := [.cell 6 (some 2), .cell 7 (some 4), .t 8]
theorem spo_gravity_Kept {ds : List D} {d : D} (hn : Nat.ble ds.length 60 = true) (h : run TSpM gtab 0 c_gravity_Kept (retK r_gravity_Kept (· = d)) ⟨env0 0 ds, []⟩) : TSp 12 ds d := Sp_of mixed c_gravity_Kept r_gravity_Kept (fn := Tryd.f12) (by kernel_rfl) (by kernel_rfl) comp_gravity_Kept (by kernel_rfl) hn h
theorem spm_gravity_Kept {ds : List D} {d : D} {bx bx' : List Ent} (hn : Nat.ble ds.length 60 = true) (h : run TSpM gtab (sizeE bx) c_gravity_Kept (retG r_gravity_Kept (fun d1 bx1 => Rt (sizeE bx) bx1 d1 d bx')) ⟨env0 0 ds, bx⟩) : TSpM 12 ds bx d bx' := SpM_of mixed c_gravity_Kept r_gravity_Kept (fn := Tryd.f12) (by kernel_rfl) (by kernel_rfl) comp_gravity_Kept (by kernel_rfl) hn h
/-- glazier/glazierref16.Kept -/
def c_ref16_Kept : C := .seq (.reg false [
  ⟨(some 4), none, .box true (.t 1)⟩,
  ⟨(some 5), none, .box true (.t 2)⟩,
  ⟨(some 6), none, .alloc [(.int .i64 0), (.int .i64 0)]⟩,
  ⟨(some 7), none, .alloc [(.int .i64 0), (.int .i64 0), (.int .i64 0), (.int .i64 0)]⟩,
  ⟨(some 8), none, .mv false (.c (.bool false))⟩] (some [0, 4, 5, 6, 7])) (
.seq (.reg false [
  ⟨(some 16), none, .mv false (.t 0)⟩,
  ⟨(some 17), none, .ld (some 4) (.t 4)⟩,
  ⟨(some 18), none, .ld (some 4) (.t 5)⟩,
  ⟨(some 19), none, .call false 11 [(.t 16), (.t 17), (.t 18)]⟩,
  ⟨(some 15), none, .mv false (.t 19)⟩,
  ⟨(some 20), none, .ext (.t 15) 0⟩,
  ⟨(some 21), none, .ext (.t 15) 1⟩,
  ⟨(some 9), none, .alloc [(.int .i64 0), (.int .i64 0)]⟩,
  ⟨none, none, .st (some 2) (.t 9) (.t 20)⟩,
  ⟨(some 10), none, .mv false (.t 21)⟩] (some [4, 5, 6, 7, 9, 10])) (
.seq (.seq (.reg false [
  ⟨(some 22), none, .mv false (.t 10)⟩,
  ⟨(some 23), none, .not (.t 22)⟩] (some [4, 5, 6, 7, 9, 23])) (
.ite (.t 23) (
  .seq (.reg false [
    ⟨(some 24), none, .bld [(.int .i64 0), (.int .i64 0)] []⟩,
    ⟨(some 25), none, .bld [(.int .i64 0), (.int .i64 0), (.int .i64 0), (.int .i64 0)] []⟩,
    ⟨none, none, .st (some 2) (.t 6) (.t 24)⟩,
    ⟨none, none, .st (some 4) (.t 7) (.t 25)⟩,
    ⟨(some 8), none, .mv false (.c (.bool false))⟩] (some [6, 7, 8])) (
  .ret)) (
  .skip))) (
.seq (.reg true [
  ⟨(some 26), none, .fld 0 (.t 9)⟩,
  ⟨(some 27), none, .ld none (.t 26)⟩,
  ⟨(some 28), none, .fld 1 (.t 9)⟩,
  ⟨(some 29), none, .ld none (.t 28)⟩,
  ⟨(some 30), none, .fld 0 (.t 9)⟩,
  ⟨(some 31), none, .ld none (.t 30)⟩,
  ⟨(some 32), none, .fld 2 (.t 4)⟩,
  ⟨(some 33), none, .ld none (.t 32)⟩,
  ⟨(some 34), none, .bin .add .i64 (.t 31) (.t 33)⟩,
  ⟨(some 35), none, .fld 1 (.t 9)⟩,
  ⟨(some 36), none, .ld none (.t 35)⟩,
  ⟨(some 37), none, .fld 3 (.t 4)⟩,
  ⟨(some 38), none, .ld none (.t 37)⟩,
  ⟨(some 39), none, .bin .add .i64 (.t 36) (.t 38)⟩,
  ⟨(some 11), none, .mv false (.t 27)⟩,
  ⟨(some 12), none, .mv false (.t 29)⟩,
  ⟨(some 13), none, .mv false (.t 34)⟩,
  ⟨(some 14), none, .mv false (.t 39)⟩] (some [5, 6, 7, 9, 11, 12, 13, 14])) (
.seq (.seq (.reg false [
  ⟨(some 40), none, .mv false (.t 11)⟩,
  ⟨(some 41), none, .bin .lss .i64 (.t 40) (.c (.int .i64 0))⟩] (some [5, 6, 7, 9, 11, 12, 13, 14, 41])) (
.ite (.t 41) (
  .reg false [
    ⟨(some 11), none, .mv false (.c (.int .i64 0))⟩] (some [5, 6, 7, 9, 11, 12, 13, 14])) (
  .skip))) (
.seq (.seq (.reg false [
  ⟨(some 42), none, .mv false (.t 12)⟩,
  ⟨(some 43), none, .bin .lss .i64 (.t 42) (.c (.int .i64 0))⟩] (some [5, 6, 7, 9, 11, 12, 13, 14, 43])) (
.ite (.t 43) (
  .reg false [
    ⟨(some 12), none, .mv false (.c (.int .i64 0))⟩] (some [5, 6, 7, 9, 11, 12, 13, 14])) (
  .skip))) (
.seq (.seq (.reg false [
  ⟨(some 44), none, .mv false (.t 13)⟩,
  ⟨(some 45), none, .fld 2 (.t 5)⟩,
  ⟨(some 46), none, .ld none (.t 45)⟩,
  ⟨(some 47), none, .bin .gtr .i64 (.t 44) (.t 46)⟩] (some [5, 6, 7, 9, 11, 12, 13, 14, 47])) (
.ite (.t 47) (
  .reg false [
    ⟨(some 48), none, .fld 2 (.t 5)⟩,
    ⟨(some 49), none, .ld none (.t 48)⟩,
    ⟨(some 13), none, .mv false (.t 49)⟩] (some [5, 6, 7, 9, 11, 12, 13, 14])) (
  .skip))) (
.seq (.seq (.reg false [
  ⟨(some 50), none, .mv false (.t 14)⟩,
  ⟨(some 51), none, .fld 3 (.t 5)⟩,
  ⟨(some 52), none, .ld none (.t 51)⟩,
  ⟨(some 53), none, .bin .gtr .i64 (.t 50) (.t 52)⟩] (some [5, 6, 7, 9, 11, 12, 13, 14, 53])) (
.ite (.t 53) (
  .reg false [
    ⟨(some 54), none, .fld 3 (.t 5)⟩,
    ⟨(some 55), none, .ld none (.t 54)⟩,
    ⟨(some 14), none, .mv false (.t 55)⟩] (some [6, 7, 9, 11, 12, 13, 14])) (
  .skip))) (
.seq (.seq (.reg false [
  ⟨(some 56), none, .mv false (.t 13)⟩,
  ⟨(some 57), none, .mv false (.t 11)⟩,
  ⟨(some 58), none, .bin .leq .i64 (.t 56) (.t 57)⟩,
  ⟨(some 59), none, .mv false (.t 58)⟩,
  ⟨(some 60), some (59, false), .mv false (.t 14)⟩,
  ⟨(some 61), some (59, false), .mv false (.t 12)⟩,
  ⟨(some 62), some (59, false), .bin .leq .i64 (.t 60) (.t 61)⟩,
  ⟨(some 63), none, .pick (.t 59) (.c (.bool true)) (.t 62)⟩] (some [6, 7, 9, 11, 12, 13, 14, 63])) (
.ite (.t 63) (
  .seq (.reg false [
    ⟨(some 64), none, .ld (some 2) (.t 9)⟩,
    ⟨(some 65), none, .bld [(.int .i64 0), (.int .i64 0), (.int .i64 0), (.int .i64 0)] []⟩,
    ⟨none, none, .st (some 2) (.t 6) (.t 64)⟩,
    ⟨none, none, .st (some 4) (.t 7) (.t 65)⟩,
    ⟨(some 8), none, .mv false (.c (.bool true))⟩] (some [6, 7, 8])) (
  .ret)) (
  .skip))) (
.seq (.reg false [
  ⟨(some 66), none, .ld (some 2) (.t 9)⟩,
  ⟨(some 67), none, .mv false (.t 11)⟩,
  ⟨(some 68), none, .mv false (.t 12)⟩,
  ⟨(some 69), none, .mv false (.t 13)⟩,
  ⟨(some 70), none, .mv false (.t 11)⟩,
  ⟨(some 71), none, .bin .sub .i64 (.t 69) (.t 70)⟩,
  ⟨(some 72), none, .mv false (.t 14)⟩,
  ⟨(some 73), none, .mv false (.t 12)⟩,
  ⟨(some 74), none, .bin .sub .i64 (.t 72) (.t 73)⟩,
  ⟨(some 75), none, .bld [(.int .i64 0), (.int .i64 0), (.int .i64 0), (.int .i64 0)] [(0, none, (.t 67)), (1, none, (.t 68)), (2, none, (.t 71)), (3, none, (.t 74))]⟩,
  ⟨none, none, .st (some 2) (.t 6) (.t 66)⟩,
  ⟨none, none, .st (some 4) (.t 7) (.t 75)⟩,
  ⟨(some 8), none, .mv false (.c (.bool true))⟩] (some [6, 7, 8])) (
.ret))))))))))
set_option maxRecDepth 1000000 in
theorem comp_ref16_Kept : (Tryd.f13.body.bind fun code => compC Tryd.prog Tryd.f13.ntmps code c_ref16_Kept) = some c_ref16_Kept.bare := by kernel_rfl
def r_ref16_Kept : List R := [.cell 6 (some 2), .cell 7 (some 4), .t 8]
theorem spo_ref16_Kept {ds : List D} {d : D} (hn : Nat.ble ds.length 76 = true) (h : run TSpM gtab 0 c_ref16_Kept (retK r_ref16_Kept (· = d)) ⟨env0 0 ds, []⟩) : TSp 13 ds d := Sp_of mixed c_ref16_Kept r_ref16_Kept (fn := Tryd.f13) (by kernel_rfl) (by kernel_rfl) comp_ref16_Kept (by kernel_rfl) hn h
theorem spm_ref16_Kept {ds : List D} {d : D} {bx bx' : List Ent} (hn : Nat.ble ds.length 76 = true) (h : run TSpM gtab (sizeE bx) c_ref16_Kept (retG r_ref16_Kept (fun d1 bx1 => Rt (sizeE bx) bx1 d1 d bx')) ⟨env0 0 ds, bx⟩) : TSpM 13 ds bx d bx' := SpM_of mixed c_ref16_Kept r_ref16_Kept (fn := Tryd.f13) (by kernel_rfl) (by kernel_rfl) comp_ref16_Kept (by kernel_rfl) hn h
/-- glazier/glazierlaw16.right -/
def c_law16_right : C := .seq (.reg false [
  ⟨(some 1), none, .box true (.t 0)⟩,
  ⟨(some 2), none, .mv false (.c (.bool false))⟩] (some [1])) (
.seq (.reg false [
  ⟨(some 3), none, .ld (some 4) (.t 1)⟩,
  ⟨(some 4), none, .call false 26 [(.t 3)]⟩,
  ⟨(some 5), none, .mv false (.t 4)⟩,
  ⟨(some 6), some (5, true), .fld 2 (.t 1)⟩,
  ⟨(some 7), some (5, true), .ld none (.t 6)⟩,
  ⟨(some 8), some (5, true), .bin .gtr .i64 (.t 7) (.c (.int .i64 0))⟩,
  ⟨(some 9), none, .pick (.t 5) (.t 8) (.c (.bool false))⟩,
  ⟨(some 2), none, .mv false (.t 9)⟩] (some [2])) (
.ret))
set_option maxRecDepth 1000000 in
theorem comp_law16_right : (Tryd.f14.body.bind fun code => compC Tryd.prog Tryd.f14.ntmps code c_law16_right) = some c_law16_right.bare := by kernel_rfl
def r_law16_right : List R := [.t 2]
theorem spo_law16_right {ds : List D} {d : D} (hn : Nat.ble ds.length 10 = true) (h : run TSpM gtab 0 c_law16_right (retK r_law16_right (· = d)) ⟨env0 0 ds, []⟩) : TSp 14 ds d := Sp_of mixed c_law16_right r_law16_right (fn := Tryd.f14) (by kernel_rfl) (by kernel_rfl) comp_law16_right (by kernel_rfl) hn h
theorem spm_law16_right {ds : List D} {d : D} {bx bx' : List Ent} (hn : Nat.ble ds.length 10 = true) (h : run TSpM gtab (sizeE bx) c_law16_right (retG r_law16_right (fun d1 bx1 => Rt (sizeE bx) bx1 d1 d bx')) ⟨env0 0 ds, bx⟩) : TSpM 14 ds bx d bx' := SpM_of mixed c_law16_right r_law16_right (fn := Tryd.f14) (by kernel_rfl) (by kernel_rfl) comp_law16_right (by kernel_rfl) hn h
/-- glazier/glazierlaw16.within -/
def c_law16_within : C := .seq (.reg false [
  ⟨(some 3), none, .box true (.t 0)⟩,
  ⟨(some 6), none, .mv false (.c (.bool false))⟩] (some [1, 2, 3])) (
.seq (.reg false [
  ⟨(some 7), none, .mv false (.t 1)⟩,
  ⟨(some 8), none, .fld 0 (.t 3)⟩,
  ⟨(some 9), none, .ld none (.t 8)⟩,
  ⟨(some 10), none, .bin .geq .i64 (.t 7) (.t 9)⟩,
  ⟨(some 11), none, .mv false (.t 10)⟩,
  ⟨(some 12), some (11, true), .mv false (.t 1)⟩,
  ⟨(some 13), some (11, true), .fld 0 (.t 3)⟩,
  ⟨(some 14), some (11, true), .ld none (.t 13)⟩,
  ⟨(some 15), some (11, true), .fld 2 (.t 3)⟩,
  ⟨(some 16), some (11, true), .ld none (.t 15)⟩,
  ⟨(some 17), some (11, true), .bin .add .i64 (.t 14) (.t 16)⟩,
  ⟨(some 18), some (11, true), .bin .lss .i64 (.t 12) (.t 17)⟩,
  ⟨(some 19), none, .pick (.t 11) (.t 18) (.c (.bool false))⟩,
  ⟨(some 20), none, .mv false (.t 19)⟩,
  ⟨(some 21), some (20, true), .mv false (.t 2)⟩,
  ⟨(some 22), some (20, true), .fld 1 (.t 3)⟩,
  ⟨(some 23), some (20, true), .ld none (.t 22)⟩,
  ⟨(some 24), some (20, true), .bin .geq .i64 (.t 21) (.t 23)⟩,
  ⟨(some 25), none, .pick (.t 20) (.t 24) (.c (.bool false))⟩,
  ⟨(some 26), none, .mv false (.t 25)⟩,
  ⟨(some 27), some (26, true), .mv false (.t 2)⟩,
  ⟨(some 28), some (26, true), .fld 1 (.t 3)⟩,
  ⟨(some 29), some (26, true), .ld none (.t 28)⟩,
  ⟨(some 30), some (26, true), .fld 3 (.t 3)⟩,
  ⟨(some 31), some (26, true), .ld none (.t 30)⟩,
  ⟨(some 32), some (26, true), .bin .add .i64 (.t 29) (.t 31)⟩,
  ⟨(some 33), some (26, true), .bin .lss .i64 (.t 27) (.t 32)⟩,
  ⟨(some 34), none, .pick (.t 26) (.t 33) (.c (.bool false))⟩,
  ⟨(some 6), none, .mv false (.t 34)⟩] (some [6])) (
.ret))
set_option maxRecDepth 1000000 in
theorem comp_law16_within : (Tryd.f15.body.bind fun code => compC Tryd.prog Tryd.f15.ntmps code c_law16_within) = some c_law16_within.bare := by kernel_rfl
def r_law16_within : List R := [.t 6]
theorem spo_law16_within {ds : List D} {d : D} (hn : Nat.ble ds.length 35 = true) (h : run TSpM gtab 0 c_law16_within (retK r_law16_within (· = d)) ⟨env0 0 ds, []⟩) : TSp 15 ds d := Sp_of mixed c_law16_within r_law16_within (fn := Tryd.f15) (by kernel_rfl) (by kernel_rfl) comp_law16_within (by kernel_rfl) hn h
theorem spm_law16_within {ds : List D} {d : D} {bx bx' : List Ent} (hn : Nat.ble ds.length 35 = true) (h : run TSpM gtab (sizeE bx) c_law16_within (retG r_law16_within (fun d1 bx1 => Rt (sizeE bx) bx1 d1 d bx')) ⟨env0 0 ds, bx⟩) : TSpM 15 ds bx d bx' := SpM_of mixed c_law16_within r_law16_within (fn := Tryd.f15) (by kernel_rfl) (by kernel_rfl) comp_law16_within (by kernel_rfl) hn h
/-- glazier/gravity.Name -/
def c_gravity_Name : C := .seq (.reg false [
  ⟨(some 2), none, .mv false (.c (.str []))⟩] (some [0])) (
.seq (.seq (.reg false [
  ⟨(some 3), none, .mv false (.t 0)⟩,
  ⟨(some 4), none, .call false 17 [(.t 3)]⟩,
  ⟨(some 5), none, .bin .neq .i64 (.t 4) (.c (.int .i64 0))⟩] (some [0, 5])) (
.ite (.t 5) (
  .seq (.reg false [
    ⟨(some 2), none, .mv false (.c (.str []))⟩] (some [2])) (
  .ret)) (
  .skip))) (
.seq (.reg false [
  ⟨(some 6), none, .mv false (.t 0)⟩,
  ⟨(some 7), none, .ixa 11 1 (.c (.glob 1 0)) (.t 6)⟩,
  ⟨(some 8), none, .ld none (.t 7)⟩,
  ⟨(some 2), none, .mv false (.t 8)⟩] (some [2])) (
.ret)))
set_option maxRecDepth 1000000 in
theorem comp_gravity_Name : (Tryd.f16.body.bind fun code => compC Tryd.prog Tryd.f16.ntmps code c_gravity_Name) = some c_gravity_Name.bare := by kernel_rfl
def r_gravity_Name : List R := [.t 2]
theorem spo_gravity_Name {ds : List D} {d : D} (hn : Nat.ble ds.length 9 = true) (h : run TSpM gtab 0 c_gravity_Name (retK r_gravity_Name (· = d)) ⟨env0 0 ds, []⟩) : TSp 16 ds d := Sp_of mixed c_gravity_Name r_gravity_Name (fn := Tryd.f16) (by kernel_rfl) (by kernel_rfl) comp_gravity_Name (by kernel_rfl) hn h
theorem spm_gravity_Name {ds : List D} {d : D} {bx bx' : List Ent} (hn : Nat.ble ds.length 9 = true) (h : run TSpM gtab (sizeE bx) c_gravity_Name (retG r_gravity_Name (fun d1 bx1 => Rt (sizeE bx) bx1 d1 d bx')) ⟨env0 0 ds, bx⟩) : TSpM 16 ds bx d bx' := SpM_of mixed c_gravity_Name r_gravity_Name (fn := Tryd.f16) (by kernel_rfl) (by kernel_rfl) comp_gravity_Name (by kernel_rfl) hn h
/-- glazier/gravity.Check -/
def c_gravity_Check : C := .seq (.reg false [
  ⟨(some 2), none, .mv false (.c (.int .i64 0))⟩] (some [0])) (
.seq (.seq (.reg false [
  ⟨(some 3), none, .mv false (.t 0)⟩,
  ⟨(some 4), none, .bin .lss .i64 (.t 3) (.c (.int .i64 0))⟩,
  ⟨(some 5), none, .mv false (.t 4)⟩,
  ⟨(some 6), some (5, false), .mv false (.t 0)⟩,
  ⟨(some 7), some (5, false), .bin .gtr .i64 (.t 6) (.c (.int .i64 10))⟩,
  ⟨(some 8), none, .pick (.t 5) (.c (.bool true)) (.t 7)⟩] (some [8])) (
.ite (.t 8) (
  .seq (.reg false [
    ⟨(some 2), none, .mv false (.c (.int .i64 10))⟩] (some [2])) (
  .ret)) (
  .skip))) (
.seq (.reg false [
  ⟨(some 2), none, .mv false (.c (.int .i64 0))⟩] (some [2])) (
.ret)))
set_option maxRecDepth 1000000 in
theorem comp_gravity_Check : (Tryd.f17.body.bind fun code => compC Tryd.prog Tryd.f17.ntmps code c_gravity_Check) = some c_gravity_Check.bare := by kernel_rfl
def r_gravity_Check : List R := [.t 2]
theorem spo_gravity_Check {ds : List D} {d : D} (hn : Nat.ble ds.length 9 = true) (h : run TSpM gtab 0 c_gravity_Check (retK r_gravity_Check (· = d)) ⟨env0 0 ds, []⟩) : TSp 17 ds d := Sp_of mixed c_gravity_Check r_gravity_Check (fn := Tryd.f17) (by kernel_rfl) (by kernel_rfl) comp_gravity_Check (by kernel_rfl) hn h
theorem spm_gravity_Check {ds : List D} {d : D} {bx bx' : List Ent} (hn : Nat.ble ds.length 9 = true) (h : run TSpM gtab (sizeE bx) c_gravity_Check (retG r_gravity_Check (fun d1 bx1 => Rt (sizeE bx) bx1 d1 d bx')) ⟨env0 0 ds, bx⟩) : TSpM 17 ds bx d bx' := SpM_of mixed c_gravity_Check r_gravity_Check (fn := Tryd.f17) (by kernel_rfl) (by kernel_rfl) comp_gravity_Check (by kernel_rfl) hn h
/-- glazier/glazierref16.Names -/
def c_ref16_Names : C := .seq (.reg false [
  ⟨(some 0), none, .nilS 9 1⟩] (some [])) (
.seq (.reg false [
  ⟨(some 1), none, .bsl none 9 1 none [(.c (.str [102, 111, 114, 103, 101, 116])), (.c (.str [110, 111, 114, 116, 104, 45, 119, 101, 115, 116])), (.c (.str [110, 111, 114, 116, 104])), (.c (.str [110, 111, 114, 116, 104, 45, 101, 97, 115, 116])), (.c (.str [119, 101, 115, 116])), (.c (.str [99, 101, 110, 116, 101, 114])), (.c (.str [101, 97, 115, 116])), (.c (.str [115, 111, 117, 116, 104, 45, 119, 101, 115, 116])), (.c (.str [115, 111, 117, 116, 104])), (.c (.str [115, 111, 117, 116, 104, 45, 101, 97, 115, 116])), (.c (.str [115, 116, 97, 116, 105, 99]))]⟩,
  ⟨(some 0), none, .mv false (.t 1)⟩] (some [0])) (
.ret))
set_option maxRecDepth 1000000 in
theorem comp_ref16_Names : (Tryd.f18.body.bind fun code => compC Tryd.prog Tryd.f18.ntmps code c_ref16_Names) = some c_ref16_Names.bare := by kernel_rfl
def r_ref16_Names : List R := [.t 0]
theorem spo_ref16_Names {ds : List D} {d : D} (hn : Nat.ble ds.length 2 = true) (h : run TSpM gtab 0 c_ref16_Names (retK r_ref16_Names (· = d)) ⟨env0 0 ds, []⟩) : TSp 18 ds d := Sp_of mixed c_ref16_Names r_ref16_Names (fn := Tryd.f18) (by kernel_rfl) (by kernel_rfl) comp_ref16_Names (by kernel_rfl) hn h
theorem spm_ref16_Names {ds : List D} {d : D} {bx bx' : List Ent} (hn : Nat.ble ds.length 2 = true) (h : run TSpM gtab (sizeE bx) c_ref16_Names (retG r_ref16_Names (fun d1 bx1 => Rt (sizeE bx) bx1 d1 d bx')) ⟨env0 0 ds, bx⟩) : TSpM 18 ds bx d bx' := SpM_of mixed c_ref16_Names r_ref16_Names (fn := Tryd.f18) (by kernel_rfl) (by kernel_rfl) comp_ref16_Names (by kernel_rfl) hn h
/-- glazier/gravity.Of -/
def c_gravity_Of : C := .seq (.reg false [
  ⟨(some 2), none, .mv false (.c (.int .i64 0))⟩,
  ⟨(some 3), none, .mv false (.c (.bool false))⟩] (some [0])) (
.seq (.seq (.reg false [
  ⟨(some 6), none, .ld (some 11) (.c (.glob 1 0))⟩,
  ⟨(some 7), none, .mv false (.c (.int .i64 0))⟩] (some [0, 6, 7])) (
.blk 0 (
  .loop (
    .seq (.reg false [
      ⟨(some 8), none, .bin .lss .i64 (.t 7) (.c (.int .i64 11))⟩] (some [0, 6, 7, 8])) (
    .seq (.ite (.t 8) (
      .skip) (
      .exit 0)) (
    .seq (.blk 1 (
      .seq (.reg false [
        ⟨(some 9), none, .mv false (.t 7)⟩,
        ⟨(some 10), none, .ixv 11 1 none (.t 6) (.t 7)⟩,
        ⟨(some 4), none, .mv false (.t 9)⟩,
        ⟨(some 5), none, .mv false (.t 10)⟩] (some [0, 4, 5, 6, 7])) (
      .seq (.reg false [
        ⟨(some 11), none, .mv false (.t 5)⟩,
        ⟨(some 12), none, .mv false (.t 0)⟩,
        ⟨(some 13), none, .eqb false true (.t 11) (.t 12)⟩] (some [0, 4, 6, 7, 13])) (
      .ite (.t 13) (
        .seq (.reg false [
          ⟨(some 14), none, .mv false (.t 4)⟩,
          ⟨(some 2), none, .mv false (.t 14)⟩,
          ⟨(some 3), none, .mv false (.c (.bool true))⟩] (some [2, 3])) (
        .ret)) (
        .skip))))) (
    .reg false [
      ⟨(some 15), none, .bin .add .i64 (.t 7) (.c (.int .i64 1))⟩,
      ⟨(some 7), none, .mv false (.t 15)⟩] (some [0, 6, 7])))))))) (
.seq (.reg false [
  ⟨(some 2), none, .mv false (.c (.int .i64 0))⟩,
  ⟨(some 3), none, .mv false (.c (.bool false))⟩] (some [2, 3])) (
.ret)))
set_option maxRecDepth 1000000 in
theorem comp_gravity_Of : (Tryd.f19.body.bind fun code => compC Tryd.prog Tryd.f19.ntmps code c_gravity_Of) = some c_gravity_Of.bare := by kernel_rfl
def r_gravity_Of : List R := [.t 2, .t 3]
theorem spo_gravity_Of {ds : List D} {d : D} (hn : Nat.ble ds.length 16 = true) (h : run TSpM gtab 0 c_gravity_Of (retK r_gravity_Of (· = d)) ⟨env0 0 ds, []⟩) : TSp 19 ds d := Sp_of mixed c_gravity_Of r_gravity_Of (fn := Tryd.f19) (by kernel_rfl) (by kernel_rfl) comp_gravity_Of (by kernel_rfl) hn h
theorem spm_gravity_Of {ds : List D} {d : D} {bx bx' : List Ent} (hn : Nat.ble ds.length 16 = true) (h : run TSpM gtab (sizeE bx) c_gravity_Of (retG r_gravity_Of (fun d1 bx1 => Rt (sizeE bx) bx1 d1 d bx')) ⟨env0 0 ds, bx⟩) : TSpM 19 ds bx d bx' := SpM_of mixed c_gravity_Of r_gravity_Of (fn := Tryd.f19) (by kernel_rfl) (by kernel_rfl) comp_gravity_Of (by kernel_rfl) hn h
/-- glazier/glazierref16.Of -/
def c_ref16_Of : C := .seq (.reg false [
  ⟨(some 2), none, .mv false (.c (.int .i64 0))⟩] (some [0])) (
.seq (.reg false [
  ⟨(some 5), none, .call false 18 []⟩,
  ⟨(some 3), none, .mv false (.t 5)⟩] (some [0, 3])) (
.seq (.seq (.reg false [
  ⟨(some 4), none, .mv false (.c (.int .i64 0))⟩] (some [0, 3, 4])) (
.blk 0 (
  .loop (
    .seq (.seq (.reg false [
      ⟨(some 6), none, .mv false (.t 4)⟩,
      ⟨(some 7), none, .mv false (.t 3)⟩,
      ⟨(some 8), none, .len false (.t 7)⟩,
      ⟨(some 9), none, .bin .lss .i64 (.t 6) (.t 8)⟩] (some [0, 3, 4, 9])) (
    .ite (.t 9) (
      .skip) (
      .exit 0))) (
    .seq (.blk 1 (
      .seq (.reg false [
        ⟨(some 12), none, .mv false (.t 3)⟩,
        ⟨(some 13), none, .mv false (.t 4)⟩,
        ⟨(some 14), none, .ixs 1 (.t 12) (.t 13)⟩,
        ⟨(some 15), none, .ld none (.t 14)⟩,
        ⟨(some 16), none, .mv false (.t 0)⟩,
        ⟨(some 17), none, .eqb false true (.t 15) (.t 16)⟩] (some [0, 3, 4, 17])) (
      .ite (.t 17) (
        .seq (.reg false [
          ⟨(some 18), none, .mv false (.t 4)⟩,
          ⟨(some 2), none, .mv false (.t 18)⟩] (some [2])) (
        .ret)) (
        .skip)))) (
    .reg false [
      ⟨(some 10), none, .mv false (.t 4)⟩,
      ⟨(some 11), none, .bin .add .i64 (.t 10) (.c (.int .i64 1))⟩,
      ⟨(some 4), none, .mv false (.t 11)⟩] (some [0, 3, 4]))))))) (
.seq (.reg false [
  ⟨(some 2), none, .mv false (.c (.int .i64 (-1)))⟩] (some [2])) (
.ret))))
set_option maxRecDepth 1000000 in
theorem comp_ref16_Of : (Tryd.f20.body.bind fun code => compC Tryd.prog Tryd.f20.ntmps code c_ref16_Of) = some c_ref16_Of.bare := by kernel_rfl
def r_ref16_Of : List R := [.t 2]
theorem spo_ref16_Of {ds : List D} {d : D} (hn : Nat.ble ds.length 19 = true) (h : run TSpM gtab 0 c_ref16_Of (retK r_ref16_Of (· = d)) ⟨env0 0 ds, []⟩) : TSp 20 ds d := Sp_of mixed c_ref16_Of r_ref16_Of (fn := Tryd.f20) (by kernel_rfl) (by kernel_rfl) comp_ref16_Of (by kernel_rfl) hn h
theorem spm_ref16_Of {ds : List D} {d : D} {bx bx' : List Ent} (hn : Nat.ble ds.length 19 = true) (h : run TSpM gtab (sizeE bx) c_ref16_Of (retG r_ref16_Of (fun d1 bx1 => Rt (sizeE bx) bx1 d1 d bx')) ⟨env0 0 ds, bx⟩) : TSpM 20 ds bx d bx' := SpM_of mixed c_ref16_Of r_ref16_Of (fn := Tryd.f20) (by kernel_rfl) (by kernel_rfl) comp_ref16_Of (by kernel_rfl) hn h
/-- glazier/rect.Empty -/
def c_rect_Empty : C := .seq (.reg false [
  ⟨(some 1), none, .box true (.t 0)⟩,
  ⟨(some 2), none, .mv false (.c (.bool false))⟩] (some [1])) (
.seq (.reg false [
  ⟨(some 3), none, .ld (some 4) (.t 1)⟩,
  ⟨(some 4), none, .call false 27 [(.t 3)]⟩,
  ⟨(some 5), none, .bld [(.int .i64 0), (.int .i64 0), (.int .i64 0), (.int .i64 0)] []⟩,
  ⟨(some 6), none, .eqS false [.i .i64, .i .i64, .i .i64, .i .i64] (.t 4) (.t 5)⟩,
  ⟨(some 2), none, .mv false (.t 6)⟩] (some [2])) (
.ret))
set_option maxRecDepth 1000000 in
theorem comp_rect_Empty : (Tryd.f21.body.bind fun code => compC Tryd.prog Tryd.f21.ntmps code c_rect_Empty) = some c_rect_Empty.bare := by kernel_rfl
def r_rect_Empty : List R := [.t 2]
theorem spo_rect_Empty {ds : List D} {d : D} (hn : Nat.ble ds.length 7 = true) (h : run TSpM gtab 0 c_rect_Empty (retK r_rect_Empty (· = d)) ⟨env0 0 ds, []⟩) : TSp 21 ds d := Sp_of mixed c_rect_Empty r_rect_Empty (fn := Tryd.f21) (by kernel_rfl) (by kernel_rfl) comp_rect_Empty (by kernel_rfl) hn h
theorem spm_rect_Empty {ds : List D} {d : D} {bx bx' : List Ent} (hn : Nat.ble ds.length 7 = true) (h : run TSpM gtab (sizeE bx) c_rect_Empty (retG r_rect_Empty (fun d1 bx1 => Rt (sizeE bx) bx1 d1 d bx')) ⟨env0 0 ds, bx⟩) : TSpM 21 ds bx d bx' := SpM_of mixed c_rect_Empty r_rect_Empty (fn := Tryd.f21) (by kernel_rfl) (by kernel_rfl) comp_rect_Empty (by kernel_rfl) hn h
/-- glazier/gravity.part -/
def c_gravity_part : C := .seq (.reg false [
  ⟨(some 4), none, .mv false (.c (.int .i64 0))⟩] (some [0, 1])) (
.seq (.seq (.reg false [
  ⟨(some 5), none, .mv false (.t 1)⟩] (some [0, 5])) (
.blk 0 (
  .seq (.reg false [
    ⟨(some 7), none, .bin .eql .i64 (.t 5) (.c (.int .i64 1))⟩,
    ⟨(some 6), none, .mv false (.t 7)⟩] (some [0, 5, 6])) (
  .ite (.t 6) (
    .seq (.reg false [
      ⟨(some 8), none, .mv false (.t 0)⟩,
      ⟨(some 9), none, .bin .shr .i64 (.t 8) (.c (.int .u64 1))⟩,
      ⟨(some 4), none, .mv false (.t 9)⟩] (some [4])) (
    .ret)) (
    .seq (.reg false [
      ⟨(some 11), none, .bin .eql .i64 (.t 5) (.c (.int .i64 2))⟩,
      ⟨(some 10), none, .mv false (.t 11)⟩] (some [0, 10])) (
    .ite (.t 10) (
      .seq (.reg false [
        ⟨(some 12), none, .mv false (.t 0)⟩,
        ⟨(some 4), none, .mv false (.t 12)⟩] (some [4])) (
      .ret)) (
      .skip))))))) (
.seq (.reg false [
  ⟨(some 4), none, .mv false (.c (.int .i64 0))⟩] (some [4])) (
.ret)))
set_option maxRecDepth 1000000 in
theorem comp_gravity_part : (Tryd.f22.body.bind fun code => compC Tryd.prog Tryd.f22.ntmps code c_gravity_part) = some c_gravity_part.bare := by kernel_rfl
def r_gravity_part : List R := [.t 4]
theorem spo_gravity_part {ds : List D} {d : D} (hn : Nat.ble ds.length 13 = true) (h : run TSpM gtab 0 c_gravity_part (retK r_gravity_part (· = d)) ⟨env0 0 ds, []⟩) : TSp 22 ds d := Sp_of mixed c_gravity_part r_gravity_part (fn := Tryd.f22) (by kernel_rfl) (by kernel_rfl) comp_gravity_part (by kernel_rfl) hn h
theorem spm_gravity_part {ds : List D} {d : D} {bx bx' : List Ent} (hn : Nat.ble ds.length 13 = true) (h : run TSpM gtab (sizeE bx) c_gravity_part (retG r_gravity_part (fun d1 bx1 => Rt (sizeE bx) bx1 d1 d bx')) ⟨env0 0 ds, bx⟩) : TSpM 22 ds bx d bx' := SpM_of mixed c_gravity_part r_gravity_part (fn := Tryd.f22) (by kernel_rfl) (by kernel_rfl) comp_gravity_part (by kernel_rfl) hn h
/-- glazier/glazierref16.right -/
def c_ref16_right : C := .seq (.reg false [
  ⟨(some 1), none, .box true (.t 0)⟩,
  ⟨(some 2), none, .mv false (.c (.bool false))⟩] (some [1])) (
.seq (.reg false [
  ⟨(some 3), none, .ld (some 4) (.t 1)⟩,
  ⟨(some 4), none, .call false 26 [(.t 3)]⟩,
  ⟨(some 5), none, .mv false (.t 4)⟩,
  ⟨(some 6), some (5, true), .fld 2 (.t 1)⟩,
  ⟨(some 7), some (5, true), .ld none (.t 6)⟩,
  ⟨(some 8), some (5, true), .bin .gtr .i64 (.t 7) (.c (.int .i64 0))⟩,
  ⟨(some 9), none, .pick (.t 5) (.t 8) (.c (.bool false))⟩,
  ⟨(some 2), none, .mv false (.t 9)⟩] (some [2])) (
.ret))
set_option maxRecDepth 1000000 in
theorem comp_ref16_right : (Tryd.f23.body.bind fun code => compC Tryd.prog Tryd.f23.ntmps code c_ref16_right) = some c_ref16_right.bare := by kernel_rfl
def r_ref16_right : List R := [.t 2]
theorem spo_ref16_right {ds : List D} {d : D} (hn : Nat.ble ds.length 10 = true) (h : run TSpM gtab 0 c_ref16_right (retK r_ref16_right (· = d)) ⟨env0 0 ds, []⟩) : TSp 23 ds d := Sp_of mixed c_ref16_right r_ref16_right (fn := Tryd.f23) (by kernel_rfl) (by kernel_rfl) comp_ref16_right (by kernel_rfl) hn h
theorem spm_ref16_right {ds : List D} {d : D} {bx bx' : List Ent} (hn : Nat.ble ds.length 10 = true) (h : run TSpM gtab (sizeE bx) c_ref16_right (retG r_ref16_right (fun d1 bx1 => Rt (sizeE bx) bx1 d1 d bx')) ⟨env0 0 ds, bx⟩) : TSpM 23 ds bx d bx' := SpM_of mixed c_ref16_right r_ref16_right (fn := Tryd.f23) (by kernel_rfl) (by kernel_rfl) comp_ref16_right (by kernel_rfl) hn h
/-- glazier/glazierref16.part -/
def c_ref16_part : C := .seq (.reg false [
  ⟨(some 4), none, .mv false (.c (.int .i64 0))⟩] (some [0, 1])) (
.seq (.seq (.reg false [
  ⟨(some 5), none, .mv false (.t 1)⟩] (some [0, 5])) (
.blk 0 (
  .seq (.reg false [
    ⟨(some 7), none, .bin .eql .i64 (.t 5) (.c (.int .i64 1))⟩,
    ⟨(some 6), none, .mv false (.t 7)⟩] (some [0, 5, 6])) (
  .ite (.t 6) (
    .seq (.seq (.reg false [
      ⟨(some 8), none, .mv false (.t 0)⟩,
      ⟨(some 9), none, .bin .lss .i64 (.t 8) (.c (.int .i64 0))⟩] (some [0, 9])) (
    .ite (.t 9) (
      .seq (.reg false [
        ⟨(some 10), none, .mv false (.t 0)⟩,
        ⟨(some 11), none, .bin .sub .i64 (.c (.int .i64 1)) (.t 10)⟩,
        ⟨(some 12), none, .bin .quo .i64 (.t 11) (.c (.int .i64 2))⟩,
        ⟨(some 13), none, .neg .i64 (.t 12)⟩,
        ⟨(some 4), none, .mv false (.t 13)⟩] (some [4])) (
      .ret)) (
      .skip))) (
    .seq (.reg false [
      ⟨(some 14), none, .mv false (.t 0)⟩,
      ⟨(some 15), none, .bin .quo .i64 (.t 14) (.c (.int .i64 2))⟩,
      ⟨(some 4), none, .mv false (.t 15)⟩] (some [4])) (
    .ret))) (
    .seq (.reg false [
      ⟨(some 17), none, .bin .eql .i64 (.t 5) (.c (.int .i64 2))⟩,
      ⟨(some 16), none, .mv false (.t 17)⟩] (some [0, 16])) (
    .ite (.t 16) (
      .seq (.reg false [
        ⟨(some 18), none, .mv false (.t 0)⟩,
        ⟨(some 4), none, .mv false (.t 18)⟩] (some [4])) (
      .ret)) (
      .skip))))))) (
.seq (.reg false [
  ⟨(some 4), none, .mv false (.c (.int .i64 0))⟩] (some [4])) (
.ret)))
set_option maxRecDepth 1000000 in
theorem comp_ref16_part : (Tryd.f24.body.bind fun code => compC Tryd.prog Tryd.f24.ntmps code c_ref16_part) = some c_ref16_part.bare := by kernel_rfl
def r_ref16_part : List R := [.t 4]
theorem spo_ref16_part {ds : List D} {d : D} (hn : Nat.ble ds.length 19 = true) (h : run TSpM gtab 0 c_ref16_part (retK r_ref16_part (· = d)) ⟨env0 0 ds, []⟩) : TSp 24 ds d := Sp_of mixed c_ref16_part r_ref16_part (fn := Tryd.f24) (by kernel_rfl) (by kernel_rfl) comp_ref16_part (by kernel_rfl) hn h
theorem spm_ref16_part {ds : List D} {d : D} {bx bx' : List Ent} (hn : Nat.ble ds.length 19 = true) (h : run TSpM gtab (sizeE bx) c_ref16_part (retG r_ref16_part (fun d1 bx1 => Rt (sizeE bx) bx1 d1 d bx')) ⟨env0 0 ds, bx⟩) : TSpM 24 ds bx d bx' := SpM_of mixed c_ref16_part r_ref16_part (fn := Tryd.f24) (by kernel_rfl) (by kernel_rfl) comp_ref16_part (by kernel_rfl) hn h
/-- glazier/gravity.stay -/
def c_gravity_stay : C := .seq (.reg false [
  ⟨(some 6), none, .mv false (.c (.int .i64 0))⟩,
  ⟨(some 7), none, .mv false (.c (.int .i64 0))⟩] (some [0, 1, 2])) (
.seq (.reg false [
  ⟨(some 9), none, .mv false (.t 2)⟩,
  ⟨(some 10), none, .mx (.c (.int .i64 0)) (.t 9)⟩,
  ⟨(some 8), none, .mv false (.t 10)⟩] (some [0, 1, 2, 8])) (
.seq (.reg false [
  ⟨(some 11), none, .mv false (.t 8)⟩,
  ⟨(some 12), none, .mv false (.t 1)⟩,
  ⟨(some 13), none, .mv false (.t 0)⟩,
  ⟨(some 14), none, .mv false (.t 2)⟩,
  ⟨(some 15), none, .bin .add .i64 (.t 13) (.t 14)⟩,
  ⟨(some 16), none, .mn (.t 12) (.t 15)⟩,
  ⟨(some 17), none, .mv false (.t 8)⟩,
  ⟨(some 18), none, .bin .sub .i64 (.t 16) (.t 17)⟩,
  ⟨(some 6), none, .mv false (.t 11)⟩,
  ⟨(some 7), none, .mv false (.t 18)⟩] (some [6, 7])) (
.ret)))
set_option maxRecDepth 1000000 in
theorem comp_gravity_stay : (Tryd.f25.body.bind fun code => compC Tryd.prog Tryd.f25.ntmps code c_gravity_stay) = some c_gravity_stay.bare := by kernel_rfl
def r_gravity_stay : List R := [.t 6, .t 7]
theorem spo_gravity_stay {ds : List D} {d : D} (hn : Nat.ble ds.length 19 = true) (h : run TSpM gtab 0 c_gravity_stay (retK r_gravity_stay (· = d)) ⟨env0 0 ds, []⟩) : TSp 25 ds d := Sp_of mixed c_gravity_stay r_gravity_stay (fn := Tryd.f25) (by kernel_rfl) (by kernel_rfl) comp_gravity_stay (by kernel_rfl) hn h
theorem spm_gravity_stay {ds : List D} {d : D} {bx bx' : List Ent} (hn : Nat.ble ds.length 19 = true) (h : run TSpM gtab (sizeE bx) c_gravity_stay (retG r_gravity_stay (fun d1 bx1 => Rt (sizeE bx) bx1 d1 d bx')) ⟨env0 0 ds, bx⟩) : TSpM 25 ds bx d bx' := SpM_of mixed c_gravity_stay r_gravity_stay (fn := Tryd.f25) (by kernel_rfl) (by kernel_rfl) comp_gravity_stay (by kernel_rfl) hn h
/-- glazier/glazierref12.Right -/
def c_ref12_Right : C := .seq (.reg false [
  ⟨(some 1), none, .box true (.t 0)⟩,
  ⟨(some 2), none, .mv false (.c (.bool false))⟩] (some [1])) (
.seq (.seq (.reg false [
  ⟨(some 3), none, .ld (some 4) (.t 1)⟩,
  ⟨(some 4), none, .bld [(.int .i64 0), (.int .i64 0), (.int .i64 0), (.int .i64 0)] []⟩,
  ⟨(some 5), none, .eqS false [.i .i64, .i .i64, .i .i64, .i .i64] (.t 3) (.t 4)⟩] (some [1, 5])) (
.ite (.t 5) (
  .seq (.reg false [
    ⟨(some 2), none, .mv false (.c (.bool true))⟩] (some [2])) (
  .ret)) (
  .skip))) (
.seq (.reg false [
  ⟨(some 6), none, .fld 2 (.t 1)⟩,
  ⟨(some 7), none, .ld none (.t 6)⟩,
  ⟨(some 8), none, .bin .geq .i64 (.t 7) (.c (.int .i64 1))⟩,
  ⟨(some 9), none, .mv false (.t 8)⟩,
  ⟨(some 10), some (9, true), .fld 3 (.t 1)⟩,
  ⟨(some 11), some (9, true), .ld none (.t 10)⟩,
  ⟨(some 12), some (9, true), .bin .geq .i64 (.t 11) (.c (.int .i64 1))⟩,
  ⟨(some 13), none, .pick (.t 9) (.t 12) (.c (.bool false))⟩,
  ⟨(some 14), none, .mv false (.t 13)⟩,
  ⟨(some 15), some (14, true), .fld 0 (.t 1)⟩,
  ⟨(some 16), some (14, true), .ld none (.t 15)⟩,
  ⟨(some 17), some (14, true), .bin .geq .i64 (.t 16) (.c (.int .i64 (-1048576)))⟩,
  ⟨(some 18), none, .pick (.t 14) (.t 17) (.c (.bool false))⟩,
  ⟨(some 19), none, .mv false (.t 18)⟩,
  ⟨(some 20), some (19, true), .fld 1 (.t 1)⟩,
  ⟨(some 21), some (19, true), .ld none (.t 20)⟩,
  ⟨(some 22), some (19, true), .bin .geq .i64 (.t 21) (.c (.int .i64 (-1048576)))⟩,
  ⟨(some 23), none, .pick (.t 19) (.t 22) (.c (.bool false))⟩,
  ⟨(some 24), none, .mv false (.t 23)⟩,
  ⟨(some 25), some (24, true), .fld 0 (.t 1)⟩,
  ⟨(some 26), some (24, true), .ld none (.t 25)⟩,
  ⟨(some 27), some (24, true), .bin .leq .i64 (.t 26) (.c (.int .i64 1048576))⟩,
  ⟨(some 28), none, .pick (.t 24) (.t 27) (.c (.bool false))⟩,
  ⟨(some 29), none, .mv false (.t 28)⟩,
  ⟨(some 30), some (29, true), .fld 1 (.t 1)⟩,
  ⟨(some 31), some (29, true), .ld none (.t 30)⟩,
  ⟨(some 32), some (29, true), .bin .leq .i64 (.t 31) (.c (.int .i64 1048576))⟩,
  ⟨(some 33), none, .pick (.t 29) (.t 32) (.c (.bool false))⟩,
  ⟨(some 34), none, .mv false (.t 33)⟩,
  ⟨(some 35), some (34, true), .fld 2 (.t 1)⟩,
  ⟨(some 36), some (34, true), .ld none (.t 35)⟩,
  ⟨(some 37), some (34, true), .fld 0 (.t 1)⟩,
  ⟨(some 38), some (34, true), .ld none (.t 37)⟩,
  ⟨(some 39), some (34, true), .bin .sub .i64 (.c (.int .i64 1048576)) (.t 38)⟩,
  ⟨(some 40), some (34, true), .bin .leq .i64 (.t 36) (.t 39)⟩,
  ⟨(some 41), none, .pick (.t 34) (.t 40) (.c (.bool false))⟩,
  ⟨(some 42), none, .mv false (.t 41)⟩,
  ⟨(some 43), some (42, true), .fld 3 (.t 1)⟩,
  ⟨(some 44), some (42, true), .ld none (.t 43)⟩,
  ⟨(some 45), some (42, true), .fld 1 (.t 1)⟩,
  ⟨(some 46), some (42, true), .ld none (.t 45)⟩,
  ⟨(some 47), some (42, true), .bin .sub .i64 (.c (.int .i64 1048576)) (.t 46)⟩,
  ⟨(some 48), some (42, true), .bin .leq .i64 (.t 44) (.t 47)⟩,
  ⟨(some 49), none, .pick (.t 42) (.t 48) (.c (.bool false))⟩,
  ⟨(some 2), none, .mv false (.t 49)⟩] (some [2])) (
.ret)))
set_option maxRecDepth 1000000 in
theorem comp_ref12_Right : (Tryd.f26.body.bind fun code => compC Tryd.prog Tryd.f26.ntmps code c_ref12_Right) = some c_ref12_Right.bare := by kernel_rfl
def r_ref12_Right : List R := [.t 2]
theorem spo_ref12_Right {ds : List D} {d : D} (hn : Nat.ble ds.length 50 = true) (h : run TSpM gtab 0 c_ref12_Right (retK r_ref12_Right (· = d)) ⟨env0 0 ds, []⟩) : TSp 26 ds d := Sp_of mixed c_ref12_Right r_ref12_Right (fn := Tryd.f26) (by kernel_rfl) (by kernel_rfl) comp_ref12_Right (by kernel_rfl) hn h
theorem spm_ref12_Right {ds : List D} {d : D} {bx bx' : List Ent} (hn : Nat.ble ds.length 50 = true) (h : run TSpM gtab (sizeE bx) c_ref12_Right (retG r_ref12_Right (fun d1 bx1 => Rt (sizeE bx) bx1 d1 d bx')) ⟨env0 0 ds, bx⟩) : TSpM 26 ds bx d bx' := SpM_of mixed c_ref12_Right r_ref12_Right (fn := Tryd.f26) (by kernel_rfl) (by kernel_rfl) comp_ref12_Right (by kernel_rfl) hn h
/-- glazier/rect.right -/
def c_rect_right : C := .seq (.reg false [
  ⟨(some 1), none, .box true (.t 0)⟩,
  ⟨(some 2), none, .alloc [(.int .i64 0), (.int .i64 0), (.int .i64 0), (.int .i64 0)]⟩] (some [1, 2])) (
.seq (.seq (.reg false [
  ⟨(some 3), none, .ld (some 4) (.t 1)⟩,
  ⟨(some 4), none, .call false 28 [(.t 3)]⟩,
  ⟨(some 5), none, .bin .neq .i64 (.t 4) (.c (.int .i64 0))⟩] (some [1, 2, 5])) (
.ite (.t 5) (
  .seq (.reg false [
    ⟨(some 6), none, .bld [(.int .i64 0), (.int .i64 0), (.int .i64 0), (.int .i64 0)] []⟩,
    ⟨none, none, .st (some 4) (.t 2) (.t 6)⟩] (some [2])) (
  .ret)) (
  .skip))) (
.seq (.reg false [
  ⟨(some 7), none, .ld (some 4) (.t 1)⟩,
  ⟨none, none, .st (some 4) (.t 2) (.t 7)⟩] (some [2])) (
.ret)))
set_option maxRecDepth 1000000 in
theorem comp_rect_right : (Tryd.f27.body.bind fun code => compC Tryd.prog Tryd.f27.ntmps code c_rect_right) = some c_rect_right.bare := by kernel_rfl
def r_rect_right : List R := [.cell 2 (some 4)]
theorem spo_rect_right {ds : List D} {d : D} (hn : Nat.ble ds.length 8 = true) (h : run TSpM gtab 0 c_rect_right (retK r_rect_right (· = d)) ⟨env0 0 ds, []⟩) : TSp 27 ds d := Sp_of mixed c_rect_right r_rect_right (fn := Tryd.f27) (by kernel_rfl) (by kernel_rfl) comp_rect_right (by kernel_rfl) hn h
theorem spm_rect_right {ds : List D} {d : D} {bx bx' : List Ent} (hn : Nat.ble ds.length 8 = true) (h : run TSpM gtab (sizeE bx) c_rect_right (retG r_rect_right (fun d1 bx1 => Rt (sizeE bx) bx1 d1 d bx')) ⟨env0 0 ds, bx⟩) : TSpM 27 ds bx d bx' := SpM_of mixed c_rect_right r_rect_right (fn := Tryd.f27) (by kernel_rfl) (by kernel_rfl) comp_rect_right (by kernel_rfl) hn h
/-- glazier/rect.Check -/
def c_rect_Check : C := .seq (.reg false [
  ⟨(some 1), none, .box true (.t 0)⟩,
  ⟨(some 2), none, .mv false (.c (.int .i64 0))⟩] (some [1])) (
.seq (.seq (.reg false [
  ⟨(some 3), none, .ld (some 4) (.t 1)⟩,
  ⟨(some 4), none, .bld [(.int .i64 0), (.int .i64 0), (.int .i64 0), (.int .i64 0)] []⟩,
  ⟨(some 5), none, .eqS false [.i .i64, .i .i64, .i .i64, .i .i64] (.t 3) (.t 4)⟩,
  ⟨(some 6), none, .mv false (.t 5)⟩,
  ⟨(some 7), some (6, false), .fld 0 (.t 1)⟩,
  ⟨(some 8), some (6, false), .ld none (.t 7)⟩,
  ⟨(some 9), some (6, false), .fld 2 (.t 1)⟩,
  ⟨(some 10), some (6, false), .ld none (.t 9)⟩,
  ⟨(some 11), some (6, false), .call false 29 [(.t 8), (.t 10)]⟩,
  ⟨(some 12), some (6, false), .mv false (.t 11)⟩,
  ⟨(some 13), some (12, true), .fld 1 (.t 1)⟩,
  ⟨(some 14), some (12, true), .ld none (.t 13)⟩,
  ⟨(some 15), some (12, true), .fld 3 (.t 1)⟩,
  ⟨(some 16), some (12, true), .ld none (.t 15)⟩,
  ⟨(some 17), some (12, true), .call false 29 [(.t 14), (.t 16)]⟩,
  ⟨(some 18), some (6, false), .pick (.t 12) (.t 17) (.c (.bool false))⟩,
  ⟨(some 19), none, .pick (.t 6) (.c (.bool true)) (.t 18)⟩] (some [19])) (
.ite (.t 19) (
  .seq (.reg false [
    ⟨(some 2), none, .mv false (.c (.int .i64 0))⟩] (some [2])) (
  .ret)) (
  .skip))) (
.seq (.reg false [
  ⟨(some 2), none, .mv false (.c (.int .i64 1))⟩] (some [2])) (
.ret)))
set_option maxRecDepth 1000000 in
theorem comp_rect_Check : (Tryd.f28.body.bind fun code => compC Tryd.prog Tryd.f28.ntmps code c_rect_Check) = some c_rect_Check.bare := by kernel_rfl
def r_rect_Check : List R := [.t 2]
theorem spo_rect_Check {ds : List D} {d : D} (hn : Nat.ble ds.length 20 = true) (h : run TSpM gtab 0 c_rect_Check (retK r_rect_Check (· = d)) ⟨env0 0 ds, []⟩) : TSp 28 ds d := Sp_of mixed c_rect_Check r_rect_Check (fn := Tryd.f28) (by kernel_rfl) (by kernel_rfl) comp_rect_Check (by kernel_rfl) hn h
theorem spm_rect_Check {ds : List D} {d : D} {bx bx' : List Ent} (hn : Nat.ble ds.length 20 = true) (h : run TSpM gtab (sizeE bx) c_rect_Check (retG r_rect_Check (fun d1 bx1 => Rt (sizeE bx) bx1 d1 d bx')) ⟨env0 0 ds, bx⟩) : TSpM 28 ds bx d bx' := SpM_of mixed c_rect_Check r_rect_Check (fn := Tryd.f28) (by kernel_rfl) (by kernel_rfl) comp_rect_Check (by kernel_rfl) hn h
/-- glazier/rect.fits -/
def c_rect_fits : C := .seq (.reg false [
  ⟨(some 4), none, .mv false (.c (.bool false))⟩] (some [0, 1])) (
.seq (.reg false [
  ⟨(some 5), none, .mv false (.t 0)⟩,
  ⟨(some 6), none, .bin .geq .i64 (.t 5) (.c (.int .i64 (-1048576)))⟩,
  ⟨(some 7), none, .mv false (.t 6)⟩,
  ⟨(some 8), some (7, true), .mv false (.t 1)⟩,
  ⟨(some 9), some (7, true), .bin .geq .i64 (.t 8) (.c (.int .i64 1))⟩,
  ⟨(some 10), none, .pick (.t 7) (.t 9) (.c (.bool false))⟩,
  ⟨(some 11), none, .mv false (.t 10)⟩,
  ⟨(some 12), some (11, true), .mv false (.t 1)⟩,
  ⟨(some 13), some (11, true), .mv false (.t 0)⟩,
  ⟨(some 14), some (11, true), .bin .sub .i64 (.c (.int .i64 1048576)) (.t 13)⟩,
  ⟨(some 15), some (11, true), .bin .leq .i64 (.t 12) (.t 14)⟩,
  ⟨(some 16), none, .pick (.t 11) (.t 15) (.c (.bool false))⟩,
  ⟨(some 4), none, .mv false (.t 16)⟩] (some [4])) (
.ret))
set_option maxRecDepth 1000000 in
theorem comp_rect_fits : (Tryd.f29.body.bind fun code => compC Tryd.prog Tryd.f29.ntmps code c_rect_fits) = some c_rect_fits.bare := by kernel_rfl
def r_rect_fits : List R := [.t 4]
theorem spo_rect_fits {ds : List D} {d : D} (hn : Nat.ble ds.length 17 = true) (h : run TSpM gtab 0 c_rect_fits (retK r_rect_fits (· = d)) ⟨env0 0 ds, []⟩) : TSp 29 ds d := Sp_of mixed c_rect_fits r_rect_fits (fn := Tryd.f29) (by kernel_rfl) (by kernel_rfl) comp_rect_fits (by kernel_rfl) hn h
theorem spm_rect_fits {ds : List D} {d : D} {bx bx' : List Ent} (hn : Nat.ble ds.length 17 = true) (h : run TSpM gtab (sizeE bx) c_rect_fits (retG r_rect_fits (fun d1 bx1 => Rt (sizeE bx) bx1 d1 d bx')) ⟨env0 0 ds, bx⟩) : TSpM 29 ds bx d bx' := SpM_of mixed c_rect_fits r_rect_fits (fn := Tryd.f29) (by kernel_rfl) (by kernel_rfl) comp_rect_fits (by kernel_rfl) hn h
end Go.AM
