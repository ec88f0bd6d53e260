/- The functions' code, as the little machine has it (printed by Show.lean). -/
import Derived.Test.YtnjmjiajbgdnlaaA20
import Derived.Test.YtnjmjiajbgdnlaaProg
set_option linter.all false
namespace Go.AM
open Go Go.Proofs
theorem mixed : Try.prog.follows .mixedOrders = true := by kernel_rfl
def gtab : Nat → Option (List D) := fun _ => none
abbrev TSp := Sp Try.prog gtab
abbrev TSpM := SpM Try.prog gtab
/-- glazier/glazierlaw52.LayoutSplits -/
def c_law52_LayoutSplits : C := .seq (.reg false [
  ⟨(some 6), none, .mv false (.c (.bool false)), none⟩] (some [0, 1, 2])) (
.seq (.seq (.reg false [
  ⟨(some 11), none, .call false 9 [], none⟩,
  ⟨(some 12), none, .not (.t 11), none⟩] (some [0, 1, 2, 12])) (
.ite (.t 12) (
  .seq (.reg false [
    ⟨(some 6), none, .mv false (.c (.bool false)), none⟩] (some [6])) (
  .ret)) (
  .skip))) (
.seq (.seq (.reg false [
  ⟨(some 13), none, .mv false (.t 1), none⟩,
  ⟨(some 14), none, .len false (.t 13), none⟩,
  ⟨(some 15), none, .bin .gtr .i64 (.t 14) (.c (.int .i64 80)), none⟩,
  ⟨(some 16), none, .mv false (.t 15), none⟩,
  ⟨(some 17), some (16, false), .mv false (.t 2), none⟩,
  ⟨(some 18), some (16, false), .len false (.t 17), none⟩,
  ⟨(some 19), some (16, false), .bin .gtr .i64 (.t 18) (.c (.int .i64 80)), none⟩,
  ⟨(some 20), none, .pick (.t 16) (.c (.bool true)) (.t 19), none⟩] (some [0, 1, 2, 20])) (
.ite (.t 20) (
  .seq (.reg false [
    ⟨(some 6), none, .mv false (.c (.bool true)), none⟩] (some [6])) (
  .ret)) (
  .skip))) (
.seq (.reg false [
  ⟨(some 22), none, .mv false (.t 0), none⟩,
  ⟨(some 23), none, .mv false (.t 1), none⟩,
  ⟨(some 24), none, .mv false (.t 2), none⟩,
  ⟨(some 25), none, .call false 10 [(.t 22), (.t 23), (.t 24)], none⟩,
  ⟨(some 21), none, .mv false (.t 25), none⟩,
  ⟨(some 26), none, .ext (.t 21) 0, none⟩,
  ⟨(some 27), none, .ext (.t 21) 1, none⟩,
  ⟨(some 7), none, .mv false (.t 26), none⟩,
  ⟨(some 8), none, .mv false (.t 27), none⟩] (some [0, 1, 2, 7, 8])) (
.seq (.reg false [
  ⟨(some 29), none, .mv false (.t 0), none⟩,
  ⟨(some 30), none, .mv false (.t 1), none⟩,
  ⟨(some 31), none, .mv false (.t 2), none⟩,
  ⟨(some 32), none, .call false 11 [(.t 29), (.t 30), (.t 31)], none⟩,
  ⟨(some 28), none, .mv false (.t 32), none⟩,
  ⟨(some 33), none, .ext (.t 28) 0, none⟩,
  ⟨(some 34), none, .ext (.t 28) 1, none⟩,
  ⟨(some 9), none, .mv false (.t 33), none⟩,
  ⟨(some 10), none, .mv false (.t 34), none⟩] (some [7, 8, 9, 10])) (
.seq (.reg false [
  ⟨(some 35), none, .mv false (.t 7), none⟩,
  ⟨(some 36), none, .mv false (.t 9), none⟩,
  ⟨(some 37), none, .call false 12 [(.t 35), (.t 36)], none⟩,
  ⟨(some 38), none, .mv false (.t 37), none⟩,
  ⟨(some 39), some (38, true), .mv false (.t 8), none⟩,
  ⟨(some 40), some (38, true), .mv false (.t 10), none⟩,
  ⟨(some 41), some (38, true), .bin .eql .i64 (.t 39) (.t 40), none⟩,
  ⟨(some 42), none, .pick (.t 38) (.t 41) (.c (.bool false)), none⟩,
  ⟨(some 6), none, .mv false (.t 42), none⟩] (some [6])) (
.ret))))))
set_option maxRecDepth 1000000 in
theorem comp_law52_LayoutSplits : (Try.f3.body.bind fun code => compC Try.prog Try.f3.ntmps code c_law52_LayoutSplits) = some c_law52_LayoutSplits.bare := by kernel_rfl
def r_law52_LayoutSplits : List R := [.t 6]
theorem spo_law52_LayoutSplits {ds : List D} {d : D} (hn : Nat.ble ds.length 43 = true) (h : run TSpM gtab 0 c_law52_LayoutSplits (retK r_law52_LayoutSplits (· = d)) ⟨env0 0 ds, []⟩) : TSp 3 ds d := Sp_of mixed c_law52_LayoutSplits r_law52_LayoutSplits (fn := Try.f3) (by kernel_rfl) (by kernel_rfl) comp_law52_LayoutSplits (by kernel_rfl) hn h
theorem spm_law52_LayoutSplits {ds : List D} {d : D} {bx bx' : List Ent} (hn : Nat.ble ds.length 43 = true) (h : run TSpM gtab (sizeE bx) c_law52_LayoutSplits (retG r_law52_LayoutSplits (fun d1 bx1 => Rt (sizeE bx) bx1 d1 d bx')) ⟨env0 0 ds, bx⟩) : TSpM 3 ds bx d bx' := SpM_of mixed c_law52_LayoutSplits r_law52_LayoutSplits (fn := Try.f3) (by kernel_rfl) (by kernel_rfl) comp_law52_LayoutSplits (by kernel_rfl) hn h
/-- glazier/glazierlaw52.LayoutSums -/
def c_law52_LayoutSums : C := .seq (.reg false [
  ⟨(some 8), none, .mv false (.c (.bool false)), none⟩] (some [0, 1, 2, 3])) (
.seq (.seq (.reg false [
  ⟨(some 18), none, .call false 9 [], none⟩,
  ⟨(some 19), none, .not (.t 18), none⟩] (some [0, 1, 2, 3, 19])) (
.ite (.t 19) (
  .seq (.reg false [
    ⟨(some 8), none, .mv false (.c (.bool false)), none⟩] (some [8])) (
  .ret)) (
  .skip))) (
.seq (.seq (.reg false [
  ⟨(some 20), none, .mv false (.t 2), none⟩,
  ⟨(some 21), none, .len false (.t 20), none⟩,
  ⟨(some 22), none, .bin .gtr .i64 (.t 21) (.c (.int .i64 64)), none⟩,
  ⟨(some 23), none, .mv false (.t 22), none⟩,
  ⟨(some 24), some (23, false), .mv false (.t 3), none⟩,
  ⟨(some 25), some (23, false), .len false (.t 24), none⟩,
  ⟨(some 26), some (23, false), .mv false (.t 2), none⟩,
  ⟨(some 27), some (23, false), .len false (.t 26), none⟩,
  ⟨(some 28), some (23, false), .bin .neq .i64 (.t 25) (.t 27), none⟩,
  ⟨(some 29), none, .pick (.t 23) (.c (.bool true)) (.t 28), none⟩,
  ⟨(some 30), none, .mv false (.t 29), none⟩,
  ⟨(some 31), some (30, false), .mv false (.t 1), none⟩,
  ⟨(some 32), some (30, false), .mv false (.t 0), none⟩,
  ⟨(some 33), some (30, false), .bin .lss .i64 (.t 31) (.t 32), none⟩,
  ⟨(some 34), none, .pick (.t 30) (.c (.bool true)) (.t 33), none⟩] (some [0, 1, 2, 3, 34])) (
.ite (.t 34) (
  .seq (.reg false [
    ⟨(some 8), none, .mv false (.c (.bool true)), none⟩] (some [8])) (
  .ret)) (
  .skip))) (
.seq (.reg false [
  ⟨(some 36), none, .mv false (.t 0), none⟩,
  ⟨(some 37), none, .mv false (.t 2), none⟩,
  ⟨(some 38), none, .mv false (.t 3), none⟩,
  ⟨(some 39), none, .call false 10 [(.t 36), (.t 37), (.t 38)], none⟩,
  ⟨(some 35), none, .mv false (.t 39), none⟩,
  ⟨(some 40), none, .ext (.t 35) 0, none⟩,
  ⟨(some 41), none, .ext (.t 35) 1, none⟩,
  ⟨(some 9), none, .mv false (.t 40), none⟩,
  ⟨(some 10), none, .mv false (.t 41), none⟩] (some [0, 1, 2, 3, 9, 10])) (
.seq (.reg false [
  ⟨(some 43), none, .mv false (.t 1), none⟩,
  ⟨(some 44), none, .mv false (.t 2), none⟩,
  ⟨(some 45), none, .mv false (.t 3), none⟩,
  ⟨(some 46), none, .call false 10 [(.t 43), (.t 44), (.t 45)], none⟩,
  ⟨(some 42), none, .mv false (.t 46), none⟩,
  ⟨(some 47), none, .ext (.t 42) 0, none⟩,
  ⟨(some 48), none, .ext (.t 42) 1, none⟩,
  ⟨(some 11), none, .mv false (.t 47), none⟩,
  ⟨(some 12), none, .mv false (.t 48), none⟩] (some [0, 2, 3, 9, 10, 11, 12])) (
.seq (.seq (.reg false [
  ⟨(some 49), none, .mv false (.t 10), none⟩,
  ⟨(some 50), none, .bin .neq .i64 (.t 49) (.c (.int .i64 0)), none⟩] (some [0, 2, 3, 9, 11, 12, 50])) (
.ite (.t 50) (
  .seq (.reg false [
    ⟨(some 51), none, .mv false (.t 9), none⟩,
    ⟨(some 52), none, .len false (.t 51), none⟩,
    ⟨(some 53), none, .bin .eql .i64 (.t 52) (.c (.int .i64 0)), none⟩,
    ⟨(some 8), none, .mv false (.t 53), none⟩] (some [8])) (
  .ret)) (
  .skip))) (
.seq (.seq (.reg false [
  ⟨(some 54), none, .mv false (.t 9), none⟩,
  ⟨(some 55), none, .len false (.t 54), none⟩,
  ⟨(some 56), none, .mv false (.t 2), none⟩,
  ⟨(some 57), none, .len false (.t 56), none⟩,
  ⟨(some 58), none, .bin .neq .i64 (.t 55) (.t 57), none⟩] (some [0, 2, 3, 9, 11, 12, 58])) (
.ite (.t 58) (
  .seq (.reg false [
    ⟨(some 8), none, .mv false (.c (.bool false)), none⟩] (some [8])) (
  .ret)) (
  .skip))) (
.seq (.reg false [
  ⟨(some 13), none, .mv false (.c (.int .i64 0)), none⟩,
  ⟨(some 14), none, .mv false (.c (.bool false)), none⟩] (some [0, 2, 3, 9, 11, 12, 13, 14])) (
.seq (.seq (.reg false [
  ⟨(some 15), none, .mv false (.c (.int .i64 0)), none⟩] (some [0, 2, 3, 9, 11, 12, 13, 14, 15])) (
.blk 0 (
  .loop (
    .seq (.seq (.reg false [
      ⟨(some 59), none, .mv false (.t 15), none⟩,
      ⟨(some 60), none, .mv false (.t 3), none⟩,
      ⟨(some 61), none, .len false (.t 60), none⟩,
      ⟨(some 62), none, .bin .lss .i64 (.t 59) (.t 61), none⟩] (some [0, 2, 3, 9, 11, 12, 13, 14, 15, 62])) (
    .ite (.t 62) (
      .skip) (
      .exit 0))) (
    .seq (.blk 1 (
      .reg false [
        ⟨(some 65), none, .mv false (.t 14), none⟩,
        ⟨(some 66), none, .mv false (.t 65), none⟩,
        ⟨(some 67), some (66, false), .mv false (.t 3), none⟩,
        ⟨(some 68), some (66, false), .mv false (.t 15), none⟩,
        ⟨(some 69), some (66, false), .ixs 1 (.t 67) (.t 68), none⟩,
        ⟨(some 70), some (66, false), .ld none (.t 69), none⟩,
        ⟨(some 71), some (66, false), .bin .gtr .i64 (.t 70) (.c (.int .i64 0)), none⟩,
        ⟨(some 72), none, .pick (.t 66) (.c (.bool true)) (.t 71), none⟩,
        ⟨(some 14), none, .mv false (.t 72), none⟩] (some [0, 2, 3, 9, 11, 12, 13, 14, 15]))) (
    .reg false [
      ⟨(some 63), none, .mv false (.t 15), none⟩,
      ⟨(some 64), none, .bin .add .i64 (.t 63) (.c (.int .i64 1)), none⟩,
      ⟨(some 15), none, .mv false (.t 64), none⟩] (some [0, 2, 3, 9, 11, 12, 13, 14, 15]))))))) (
.seq (.reg false [
  ⟨(some 16), none, .mv false (.c (.int .i64 0)), none⟩] (some [0, 2, 3, 9, 11, 12, 13, 14, 16])) (
.seq (.seq (.reg false [
  ⟨(some 17), none, .mv false (.c (.int .i64 0)), none⟩] (some [0, 2, 3, 9, 11, 12, 13, 14, 16, 17])) (
.blk 2 (
  .loop (
    .seq (.seq (.reg false [
      ⟨(some 73), none, .mv false (.t 17), none⟩,
      ⟨(some 74), none, .mv false (.t 9), none⟩,
      ⟨(some 75), none, .len false (.t 74), none⟩,
      ⟨(some 76), none, .bin .lss .i64 (.t 73) (.t 75), none⟩] (some [0, 2, 3, 9, 11, 12, 13, 14, 16, 17, 76])) (
    .ite (.t 76) (
      .skip) (
      .exit 2))) (
    .seq (.blk 3 (
      .seq (.reg false [
        ⟨(some 79), none, .mv false (.t 13), none⟩,
        ⟨(some 80), none, .mv false (.t 9), none⟩,
        ⟨(some 81), none, .mv false (.t 17), none⟩,
        ⟨(some 82), none, .ixs 1 (.t 80) (.t 81), none⟩,
        ⟨(some 83), none, .ld none (.t 82), none⟩,
        ⟨(some 84), none, .bin .add .i64 (.t 79) (.t 83), none⟩,
        ⟨(some 13), none, .mv false (.t 84), none⟩] (some [0, 2, 3, 9, 11, 12, 13, 14, 16, 17])) (
      .seq (.seq (.reg false [
        ⟨(some 85), none, .mv false (.t 12), none⟩,
        ⟨(some 86), none, .bin .eql .i64 (.t 85) (.c (.int .i64 0)), none⟩,
        ⟨(some 87), none, .mv false (.t 86), none⟩,
        ⟨(some 88), some (87, true), .mv false (.t 17), none⟩,
        ⟨(some 89), some (87, true), .mv false (.t 11), none⟩,
        ⟨(some 90), some (87, true), .len false (.t 89), none⟩,
        ⟨(some 91), some (87, true), .bin .lss .i64 (.t 88) (.t 90), none⟩,
        ⟨(some 92), none, .pick (.t 87) (.t 91) (.c (.bool false)), none⟩] (some [0, 2, 3, 9, 11, 12, 13, 14, 16, 17, 92])) (
      .ite (.t 92) (
        .reg false [
          ⟨(some 93), none, .mv false (.t 16), none⟩,
          ⟨(some 94), none, .mv false (.t 11), none⟩,
          ⟨(some 95), none, .mv false (.t 17), none⟩,
          ⟨(some 96), none, .ixs 1 (.t 94) (.t 95), none⟩,
          ⟨(some 97), none, .ld none (.t 96), none⟩,
          ⟨(some 98), none, .bin .add .i64 (.t 93) (.t 97), none⟩,
          ⟨(some 16), none, .mv false (.t 98), none⟩] (some [0, 2, 3, 9, 11, 12, 13, 14, 16, 17])) (
        .skip))) (
      .seq (.reg true [
        ⟨(some 99), none, .mv false (.t 9), none⟩,
        ⟨(some 100), none, .mv false (.t 17), none⟩,
        ⟨(some 101), none, .ixs 1 (.t 99) (.t 100), none⟩,
        ⟨(some 102), none, .ld none (.t 101), none⟩,
        ⟨(some 103), none, .mv false (.t 2), none⟩,
        ⟨(some 104), none, .mv false (.t 17), none⟩,
        ⟨(some 105), none, .ixs 1 (.t 103) (.t 104), none⟩,
        ⟨(some 106), none, .ld none (.t 105), none⟩,
        ⟨(some 107), none, .bin .lss .i64 (.t 102) (.t 106), none⟩,
        ⟨(some 108), none, .mv false (.t 107), none⟩,
        ⟨(some 109), some (108, false), .mv false (.t 14), none⟩,
        ⟨(some 110), some (108, false), .mv false (.t 109), none⟩,
        ⟨(some 111), some (110, true), .mv false (.t 3), none⟩,
        ⟨(some 112), some (110, true), .mv false (.t 17), none⟩,
        ⟨(some 113), some (110, true), .ixs 1 (.t 111) (.t 112), none⟩,
        ⟨(some 114), some (110, true), .ld none (.t 113), none⟩,
        ⟨(some 115), some (110, true), .bin .eql .i64 (.t 114) (.c (.int .i64 0)), none⟩,
        ⟨(some 116), some (108, false), .pick (.t 110) (.t 115) (.c (.bool false)), none⟩,
        ⟨(some 117), some (108, false), .mv false (.t 116), none⟩,
        ⟨(some 118), some (117, true), .mv false (.t 9), none⟩,
        ⟨(some 119), some (117, true), .mv false (.t 17), none⟩,
        ⟨(some 120), some (117, true), .ixs 1 (.t 118) (.t 119), none⟩,
        ⟨(some 121), some (117, true), .ld none (.t 120), none⟩,
        ⟨(some 122), some (117, true), .mv false (.t 2), none⟩,
        ⟨(some 123), some (117, true), .mv false (.t 17), none⟩,
        ⟨(some 124), some (117, true), .ixs 1 (.t 122) (.t 123), none⟩,
        ⟨(some 125), some (117, true), .ld none (.t 124), none⟩,
        ⟨(some 126), some (117, true), .bin .neq .i64 (.t 121) (.t 125), none⟩,
        ⟨(some 127), some (108, false), .pick (.t 117) (.t 126) (.c (.bool false)), none⟩,
        ⟨(some 128), none, .pick (.t 108) (.c (.bool true)) (.t 127), none⟩,
        ⟨(some 129), none, .mv false (.t 128), none⟩,
        ⟨(some 130), some (129, false), .mv false (.t 12), none⟩,
        ⟨(some 131), some (129, false), .bin .eql .i64 (.t 130) (.c (.int .i64 0)), none⟩,
        ⟨(some 132), some (129, false), .mv false (.t 131), none⟩,
        ⟨(some 133), some (132, true), .mv false (.t 17), none⟩,
        ⟨(some 134), some (132, true), .mv false (.t 11), none⟩,
        ⟨(some 135), some (132, true), .len false (.t 134), none⟩,
        ⟨(some 136), some (132, true), .bin .geq .i64 (.t 133) (.t 135), none⟩,
        ⟨(some 137), some (132, true), .mv false (.t 136), none⟩,
        ⟨(some 138), some (137, false), .mv false (.t 16), none⟩,
        ⟨(some 139), some (137, false), .mv false (.t 13), none⟩,
        ⟨(some 140), some (137, false), .bin .lss .i64 (.t 138) (.t 139), none⟩,
        ⟨(some 141), some (132, true), .pick (.t 137) (.c (.bool true)) (.t 140), none⟩,
        ⟨(some 142), some (129, false), .pick (.t 132) (.t 141) (.c (.bool false)), none⟩,
        ⟨(some 143), none, .pick (.t 129) (.c (.bool true)) (.t 142), none⟩] (some [0, 2, 3, 9, 11, 12, 13, 14, 16, 17, 143])) (
      .ite (.t 143) (
        .seq (.reg false [
          ⟨(some 8), none, .mv false (.c (.bool false)), none⟩] (some [8])) (
        .ret)) (
        .skip)))))) (
    .reg false [
      ⟨(some 77), none, .mv false (.t 17), none⟩,
      ⟨(some 78), none, .bin .add .i64 (.t 77) (.c (.int .i64 1)), none⟩,
      ⟨(some 17), none, .mv false (.t 78), none⟩] (some [0, 2, 3, 9, 11, 12, 13, 14, 16, 17]))))))) (
.seq (.reg false [
  ⟨(some 144), none, .mv false (.t 9), none⟩,
  ⟨(some 145), none, .len false (.t 144), none⟩,
  ⟨(some 146), none, .bin .eql .i64 (.t 145) (.c (.int .i64 0)), none⟩,
  ⟨(some 147), none, .mv false (.t 146), none⟩,
  ⟨(some 148), some (147, false), .mv false (.t 13), none⟩,
  ⟨(some 149), some (147, false), .mv false (.t 0), none⟩,
  ⟨(some 150), some (147, false), .bin .eql .i64 (.t 148) (.t 149), none⟩,
  ⟨(some 151), none, .pick (.t 147) (.c (.bool true)) (.t 150), none⟩,
  ⟨(some 8), none, .mv false (.t 151), none⟩] (some [8])) (
.ret))))))))))))
set_option maxRecDepth 1000000 in
theorem comp_law52_LayoutSums : (Try.f4.body.bind fun code => compC Try.prog Try.f4.ntmps code c_law52_LayoutSums) = some c_law52_LayoutSums.bare := by kernel_rfl
def r_law52_LayoutSums : List R := [.t 8]
theorem spo_law52_LayoutSums {ds : List D} {d : D} (hn : Nat.ble ds.length 152 = true) (h : run TSpM gtab 0 c_law52_LayoutSums (retK r_law52_LayoutSums (· = d)) ⟨env0 0 ds, []⟩) : TSp 4 ds d := Sp_of mixed c_law52_LayoutSums r_law52_LayoutSums (fn := Try.f4) (by kernel_rfl) (by kernel_rfl) comp_law52_LayoutSums (by kernel_rfl) hn h
theorem spm_law52_LayoutSums {ds : List D} {d : D} {bx bx' : List Ent} (hn : Nat.ble ds.length 152 = true) (h : run TSpM gtab (sizeE bx) c_law52_LayoutSums (retG r_law52_LayoutSums (fun d1 bx1 => Rt (sizeE bx) bx1 d1 d bx')) ⟨env0 0 ds, bx⟩) : TSpM 4 ds bx d bx' := SpM_of mixed c_law52_LayoutSums r_law52_LayoutSums (fn := Try.f4) (by kernel_rfl) (by kernel_rfl) comp_law52_LayoutSums (by kernel_rfl) hn h
/-- glazier/glazierlaw52.LayoutTiles -/
def c_law52_LayoutTiles : C := .seq (.reg false [
  ⟨(some 4), none, .box true (.t 0), none⟩,
  ⟨(some 8), none, .mv false (.c (.bool false)), none⟩] (some [1, 2, 3, 4])) (
.seq (.seq (.reg false [
  ⟨(some 20), none, .call false 9 [], none⟩,
  ⟨(some 21), none, .not (.t 20), none⟩] (some [1, 2, 3, 4, 21])) (
.ite (.t 21) (
  .seq (.reg false [
    ⟨(some 8), none, .mv false (.c (.bool false)), none⟩] (some [8])) (
  .ret)) (
  .skip))) (
.seq (.seq (.reg false [
  ⟨(some 22), none, .mv false (.t 1), none⟩,
  ⟨(some 23), none, .call false 13 [(.t 22)], none⟩,
  ⟨(some 24), none, .not (.t 23), none⟩] (some [1, 2, 3, 4, 24])) (
.ite (.t 24) (
  .seq (.reg false [
    ⟨(some 8), none, .mv false (.c (.bool true)), none⟩] (some [8])) (
  .ret)) (
  .skip))) (
.seq (.reg false [
  ⟨(some 26), none, .ld (some 4) (.t 4), none⟩,
  ⟨(some 27), none, .mv false (.t 1), none⟩,
  ⟨(some 28), none, .call false 14 [(.t 26), (.t 27)], none⟩,
  ⟨(some 25), none, .mv false (.t 28), none⟩,
  ⟨(some 29), none, .ext (.t 25) 0, none⟩,
  ⟨(some 30), none, .ext (.t 25) 1, none⟩,
  ⟨(some 9), none, .mv false (.t 29), none⟩,
  ⟨(some 10), none, .mv false (.t 30), none⟩] (some [1, 2, 3, 4, 9, 10])) (
.seq (.seq (.reg false [
  ⟨(some 31), none, .mv false (.t 10), none⟩,
  ⟨(some 32), none, .bin .neq .i64 (.t 31) (.c (.int .i64 0)), none⟩] (some [1, 2, 3, 4, 9, 32])) (
.ite (.t 32) (
  .seq (.reg false [
    ⟨(some 33), none, .mv false (.t 9), none⟩,
    ⟨(some 34), none, .len false (.t 33), none⟩,
    ⟨(some 35), none, .bin .eql .i64 (.t 34) (.c (.int .i64 0)), none⟩,
    ⟨(some 8), none, .mv false (.t 35), none⟩] (some [8])) (
  .ret)) (
  .skip))) (
.seq (.seq (.reg true [
  ⟨(some 36), none, .mv false (.t 9), none⟩,
  ⟨(some 37), none, .len false (.t 36), none⟩,
  ⟨(some 38), none, .mv false (.t 1), none⟩,
  ⟨(some 39), none, .len false (.t 38), none⟩,
  ⟨(some 40), none, .bin .neq .i64 (.t 37) (.t 39), none⟩,
  ⟨(some 41), none, .mv false (.t 40), none⟩,
  ⟨(some 42), some (41, false), .mv false (.t 9), none⟩,
  ⟨(some 43), some (41, false), .ixs 4 (.t 42) (.c (.int .i64 0)), none⟩,
  ⟨(some 44), some (41, false), .ld (some 4) (.t 43), none⟩,
  ⟨(some 45), some (41, false), .ld (some 4) (.t 4), none⟩,
  ⟨(some 46), some (41, false), .eqS true [.i .i64, .i .i64, .i .i64, .i .i64] (.t 44) (.t 45), none⟩,
  ⟨(some 47), none, .pick (.t 41) (.c (.bool true)) (.t 46), none⟩] (some [1, 2, 3, 4, 9, 47])) (
.ite (.t 47) (
  .seq (.reg false [
    ⟨(some 8), none, .mv false (.c (.bool false)), none⟩] (some [8])) (
  .ret)) (
  .skip))) (
.seq (.seq (.reg false [
  ⟨(some 11), none, .mv false (.c (.int .i64 0)), none⟩] (some [1, 2, 3, 4, 9, 11])) (
.blk 0 (
  .loop (
    .seq (.seq (.reg false [
      ⟨(some 48), none, .mv false (.t 11), none⟩,
      ⟨(some 49), none, .mv false (.t 1), none⟩,
      ⟨(some 50), none, .len false (.t 49), none⟩,
      ⟨(some 51), none, .bin .lss .i64 (.t 48) (.t 50), none⟩] (some [1, 2, 3, 4, 9, 11, 51])) (
    .ite (.t 51) (
      .skip) (
      .exit 0))) (
    .seq (.blk 1 (
      .seq (.reg false [
        ⟨(some 12), none, .mv false (.c (.int .i64 0)), none⟩,
        ⟨(some 13), none, .mv false (.c (.int .i64 0)), none⟩] (some [1, 2, 3, 4, 9, 11, 12, 13])) (
      .seq (.seq (.reg false [
        ⟨(some 14), none, .mv false (.c (.int .i64 0)), none⟩] (some [1, 2, 3, 4, 9, 11, 12, 13, 14])) (
      .blk 2 (
        .loop (
          .seq (.seq (.reg false [
            ⟨(some 54), none, .mv false (.t 14), none⟩,
            ⟨(some 55), none, .mv false (.t 1), none⟩,
            ⟨(some 56), none, .mv false (.t 11), none⟩,
            ⟨(some 57), none, .ixs 6 (.t 55) (.t 56), none⟩,
            ⟨(some 58), none, .fld 5 (.t 57), none⟩,
            ⟨(some 59), none, .ld none (.t 58), none⟩,
            ⟨(some 60), none, .len false (.t 59), none⟩,
            ⟨(some 61), none, .bin .lss .i64 (.t 54) (.t 60), none⟩] (some [1, 2, 3, 4, 9, 11, 12, 13, 14, 61])) (
          .ite (.t 61) (
            .skip) (
            .exit 2))) (
          .seq (.blk 3 (
            .seq (.reg false [
              ⟨(some 64), none, .mv false (.t 1), none⟩,
              ⟨(some 65), none, .mv false (.t 11), none⟩,
              ⟨(some 66), none, .ixs 6 (.t 64) (.t 65), none⟩,
              ⟨(some 67), none, .fld 5 (.t 66), none⟩,
              ⟨(some 68), none, .ld none (.t 67), none⟩,
              ⟨(some 69), none, .mv false (.t 14), none⟩,
              ⟨(some 70), none, .ixs 1 (.t 68) (.t 69), none⟩,
              ⟨(some 71), none, .ld none (.t 70), none⟩,
              ⟨(some 15), none, .mv false (.t 71), none⟩] (some [1, 2, 3, 4, 9, 11, 12, 13, 14, 15])) (
            .seq (.seq (.reg true [
              ⟨(some 72), none, .mv false (.t 15), none⟩,
              ⟨(some 73), none, .mv false (.t 11), none⟩,
              ⟨(some 74), none, .bin .leq .i64 (.t 72) (.t 73), none⟩,
              ⟨(some 75), none, .mv false (.t 74), none⟩,
              ⟨(some 76), some (75, false), .mv false (.t 15), none⟩,
              ⟨(some 77), some (75, false), .mv false (.t 1), none⟩,
              ⟨(some 78), some (75, false), .len false (.t 77), none⟩,
              ⟨(some 79), some (75, false), .bin .geq .i64 (.t 76) (.t 78), none⟩,
              ⟨(some 80), none, .pick (.t 75) (.c (.bool true)) (.t 79), none⟩,
              ⟨(some 81), none, .mv false (.t 80), none⟩,
              ⟨(some 82), some (81, false), .mv false (.t 9), none⟩,
              ⟨(some 83), some (81, false), .mv false (.t 11), none⟩,
              ⟨(some 84), some (81, false), .ixs 4 (.t 82) (.t 83), none⟩,
              ⟨(some 85), some (81, false), .ld (some 4) (.t 84), none⟩,
              ⟨(some 86), some (81, false), .mv false (.t 9), none⟩,
              ⟨(some 87), some (81, false), .mv false (.t 15), none⟩,
              ⟨(some 88), some (81, false), .ixs 4 (.t 86) (.t 87), none⟩,
              ⟨(some 89), some (81, false), .ld (some 4) (.t 88), none⟩,
              ⟨(some 90), some (81, false), .call false 15 [(.t 85), (.t 89)], none⟩,
              ⟨(some 91), some (81, false), .not (.t 90), none⟩,
              ⟨(some 92), none, .pick (.t 81) (.c (.bool true)) (.t 91), none⟩] (some [1, 2, 3, 4, 9, 11, 12, 13, 14, 15, 92])) (
            .ite (.t 92) (
              .seq (.reg false [
                ⟨(some 8), none, .mv false (.c (.bool false)), none⟩] (some [8])) (
              .ret)) (
              .skip))) (
            .seq (.seq (.reg false [
              ⟨(some 16), none, .mv false (.c (.int .i64 0)), none⟩] (some [1, 2, 3, 4, 9, 11, 12, 13, 14, 15, 16])) (
            .blk 4 (
              .loop (
                .seq (.seq (.reg false [
                  ⟨(some 93), none, .mv false (.t 16), none⟩,
                  ⟨(some 94), none, .mv false (.t 14), none⟩,
                  ⟨(some 95), none, .bin .lss .i64 (.t 93) (.t 94), none⟩] (some [1, 2, 3, 4, 9, 11, 12, 13, 14, 15, 16, 95])) (
                .ite (.t 95) (
                  .skip) (
                  .exit 4))) (
                .seq (.blk 5 (
                  .seq (.reg true [
                    ⟨(some 98), none, .mv false (.t 9), none⟩,
                    ⟨(some 99), none, .mv false (.t 15), none⟩,
                    ⟨(some 100), none, .ixs 4 (.t 98) (.t 99), none⟩,
                    ⟨(some 101), none, .ld (some 4) (.t 100), none⟩,
                    ⟨(some 102), none, .mv false (.t 9), none⟩,
                    ⟨(some 103), none, .mv false (.t 1), none⟩,
                    ⟨(some 104), none, .mv false (.t 11), none⟩,
                    ⟨(some 105), none, .ixs 6 (.t 103) (.t 104), none⟩,
                    ⟨(some 106), none, .fld 5 (.t 105), none⟩,
                    ⟨(some 107), none, .ld none (.t 106), none⟩,
                    ⟨(some 108), none, .mv false (.t 16), none⟩,
                    ⟨(some 109), none, .ixs 1 (.t 107) (.t 108), none⟩,
                    ⟨(some 110), none, .ld none (.t 109), none⟩,
                    ⟨(some 111), none, .ixs 4 (.t 102) (.t 110), none⟩,
                    ⟨(some 112), none, .ld (some 4) (.t 111), none⟩,
                    ⟨(some 113), none, .call false 16 [(.t 101), (.t 112)], none⟩,
                    ⟨(some 114), none, .part 2 none (.t 113), none⟩,
                    ⟨(some 115), none, .bin .gtr .i64 (.t 114) (.c (.int .i64 0)), none⟩] (some [1, 2, 3, 4, 9, 11, 12, 13, 14, 15, 16, 115])) (
                  .ite (.t 115) (
                    .seq (.reg false [
                      ⟨(some 8), none, .mv false (.c (.bool false)), none⟩] (some [8])) (
                    .ret)) (
                    .skip)))) (
                .reg false [
                  ⟨(some 96), none, .mv false (.t 16), none⟩,
                  ⟨(some 97), none, .bin .add .i64 (.t 96) (.c (.int .i64 1)), none⟩,
                  ⟨(some 16), none, .mv false (.t 97), none⟩] (some [1, 2, 3, 4, 9, 11, 12, 13, 14, 15, 16]))))))) (
            .seq (.reg false [
              ⟨(some 116), none, .mv false (.t 12), none⟩,
              ⟨(some 117), none, .mv false (.t 9), none⟩,
              ⟨(some 118), none, .mv false (.t 15), none⟩,
              ⟨(some 119), none, .ixs 4 (.t 117) (.t 118), none⟩,
              ⟨(some 120), none, .ld (some 4) (.t 119), none⟩,
              ⟨(some 121), none, .call false 17 [(.t 120)], none⟩,
              ⟨(some 122), none, .bin .add .i64 (.t 116) (.t 121), none⟩,
              ⟨(some 12), none, .mv false (.t 122), none⟩] (some [1, 2, 3, 4, 9, 11, 12, 13, 14])) (
            .seq (.reg false [
              ⟨(some 123), none, .mv false (.t 14), none⟩,
              ⟨(some 124), none, .bin .gtr .i64 (.t 123) (.c (.int .i64 0)), none⟩] (some [1, 2, 3, 4, 9, 11, 12, 13, 14, 124])) (
            .ite (.t 124) (
              .reg false [
                ⟨(some 125), none, .mv false (.t 13), none⟩,
                ⟨(some 126), none, .mv false (.t 1), none⟩,
                ⟨(some 127), none, .mv false (.t 11), none⟩,
                ⟨(some 128), none, .ixs 6 (.t 126) (.t 127), none⟩,
                ⟨(some 129), none, .fld 1 (.t 128), none⟩,
                ⟨(some 130), none, .ld none (.t 129), none⟩,
                ⟨(some 131), none, .bin .add .i64 (.t 125) (.t 130), none⟩,
                ⟨(some 13), none, .mv false (.t 131), none⟩] (some [1, 2, 3, 4, 9, 11, 12, 13, 14])) (
              .skip)))))))) (
          .reg false [
            ⟨(some 62), none, .mv false (.t 14), none⟩,
            ⟨(some 63), none, .bin .add .i64 (.t 62) (.c (.int .i64 1)), none⟩,
            ⟨(some 14), none, .mv false (.t 63), none⟩] (some [1, 2, 3, 4, 9, 11, 12, 13, 14]))))))) (
      .seq (.reg true [
        ⟨(some 132), none, .mv false (.t 9), none⟩,
        ⟨(some 133), none, .mv false (.t 11), none⟩,
        ⟨(some 134), none, .ixs 4 (.t 132) (.t 133), none⟩,
        ⟨(some 135), none, .fld 3 (.t 134), none⟩,
        ⟨(some 136), none, .ld none (.t 135), none⟩,
        ⟨(some 137), none, .mv false (.t 9), none⟩,
        ⟨(some 138), none, .mv false (.t 11), none⟩,
        ⟨(some 139), none, .ixs 4 (.t 137) (.t 138), none⟩,
        ⟨(some 140), none, .fld 2 (.t 139), none⟩,
        ⟨(some 141), none, .ld none (.t 140), none⟩,
        ⟨(some 17), none, .mv false (.t 136), none⟩,
        ⟨(some 18), none, .mv false (.t 141), none⟩] (some [1, 2, 3, 4, 9, 11, 12, 13, 17, 18])) (
      .seq (.seq (.reg false [
        ⟨(some 142), none, .mv false (.t 1), none⟩,
        ⟨(some 143), none, .mv false (.t 11), none⟩,
        ⟨(some 144), none, .ixs 6 (.t 142) (.t 143), none⟩,
        ⟨(some 145), none, .fld 0 (.t 144), none⟩,
        ⟨(some 146), none, .ld none (.t 145), none⟩] (some [1, 2, 3, 4, 9, 11, 12, 13, 17, 18, 146])) (
      .ite (.t 146) (
        .reg false [
          ⟨(some 147), none, .mv false (.t 18), none⟩,
          ⟨(some 148), none, .mv false (.t 17), none⟩,
          ⟨(some 17), none, .mv false (.t 147), none⟩,
          ⟨(some 18), none, .mv false (.t 148), none⟩] (some [1, 2, 3, 4, 9, 11, 12, 13, 17, 18])) (
        .skip))) (
      .seq (.reg false [
        ⟨(some 149), none, .mv false (.t 1), none⟩,
        ⟨(some 150), none, .mv false (.t 11), none⟩,
        ⟨(some 151), none, .ixs 6 (.t 149) (.t 150), none⟩,
        ⟨(some 152), none, .fld 5 (.t 151), none⟩,
        ⟨(some 153), none, .ld none (.t 152), none⟩,
        ⟨(some 154), none, .len false (.t 153), none⟩,
        ⟨(some 155), none, .bin .gtr .i64 (.t 154) (.c (.int .i64 0)), none⟩,
        ⟨(some 156), none, .mv false (.t 155), none⟩,
        ⟨(some 157), some (156, true), .mv false (.t 9), none⟩,
        ⟨(some 158), some (156, true), .mv false (.t 11), none⟩,
        ⟨(some 159), some (156, true), .ixs 4 (.t 157) (.t 158), none⟩,
        ⟨(some 160), some (156, true), .ld (some 4) (.t 159), none⟩,
        ⟨(some 161), some (156, true), .call false 17 [(.t 160)], none⟩,
        ⟨(some 162), some (156, true), .bin .gtr .i64 (.t 161) (.c (.int .i64 0)), none⟩,
        ⟨(some 163), none, .pick (.t 156) (.t 162) (.c (.bool false)), none⟩,
        ⟨(some 164), none, .mv false (.t 163), none⟩,
        ⟨(some 165), some (164, true), .mv false (.t 12), none⟩,
        ⟨(some 166), some (164, true), .mv false (.t 13), none⟩,
        ⟨(some 167), some (164, true), .mv false (.t 17), none⟩,
        ⟨(some 168), some (164, true), .bin .mul .i64 (.t 166) (.t 167), none⟩,
        ⟨(some 169), some (164, true), .bin .add .i64 (.t 165) (.t 168), none⟩,
        ⟨(some 170), some (164, true), .mv false (.t 9), none⟩,
        ⟨(some 171), some (164, true), .mv false (.t 11), none⟩,
        ⟨(some 172), some (164, true), .ixs 4 (.t 170) (.t 171), none⟩,
        ⟨(some 173), some (164, true), .ld (some 4) (.t 172), none⟩,
        ⟨(some 174), some (164, true), .call false 17 [(.t 173)], none⟩,
        ⟨(some 175), some (164, true), .bin .neq .i64 (.t 169) (.t 174), none⟩,
        ⟨(some 176), none, .pick (.t 164) (.t 175) (.c (.bool false)), none⟩,
        ⟨(some 177), none, .mv false (.t 176), none⟩,
        ⟨(some 178), some (177, true), .mv false (.t 18), none⟩,
        ⟨(some 179), some (177, true), .mv false (.t 13), none⟩,
        ⟨(some 180), some (177, true), .bin .geq .i64 (.t 178) (.t 179), none⟩,
        ⟨(some 181), none, .pick (.t 177) (.t 180) (.c (.bool false)), none⟩] (some [1, 2, 3, 4, 9, 11, 181])) (
      .ite (.t 181) (
        .seq (.reg false [
          ⟨(some 8), none, .mv false (.c (.bool false)), none⟩] (some [8])) (
        .ret)) (
        .skip)))))))) (
    .reg false [
      ⟨(some 52), none, .mv false (.t 11), none⟩,
      ⟨(some 53), none, .bin .add .i64 (.t 52) (.c (.int .i64 1)), none⟩,
      ⟨(some 11), none, .mv false (.t 53), none⟩] (some [1, 2, 3, 4, 9, 11]))))))) (
.seq (.reg true [
  ⟨(some 182), none, .fld 0 (.t 4), none⟩,
  ⟨(some 183), none, .ld none (.t 182), none⟩,
  ⟨(some 184), none, .mv false (.t 2), none⟩,
  ⟨(some 185), none, .conv .i64 (.t 184), none⟩,
  ⟨(some 186), none, .fld 2 (.t 4), none⟩,
  ⟨(some 187), none, .ld none (.t 186), none⟩,
  ⟨(some 188), none, .bin .rem .i64 (.t 185) (.t 187), none⟩,
  ⟨(some 189), none, .bin .add .i64 (.t 183) (.t 188), none⟩,
  ⟨(some 190), none, .fld 1 (.t 4), none⟩,
  ⟨(some 191), none, .ld none (.t 190), none⟩,
  ⟨(some 192), none, .mv false (.t 3), none⟩,
  ⟨(some 193), none, .conv .i64 (.t 192), none⟩,
  ⟨(some 194), none, .fld 3 (.t 4), none⟩,
  ⟨(some 195), none, .ld none (.t 194), none⟩,
  ⟨(some 196), none, .bin .rem .i64 (.t 193) (.t 195), none⟩,
  ⟨(some 197), none, .bin .add .i64 (.t 191) (.t 196), none⟩,
  ⟨(some 198), none, .mv false (.t 9), none⟩,
  ⟨(some 199), none, .call false 18 [(.t 189), (.t 197), (.t 198)], none⟩,
  ⟨(some 19), none, .mv false (.t 199), none⟩] (some [1, 19])) (
.seq (.reg false [
  ⟨(some 200), none, .mv false (.t 19), none⟩,
  ⟨(some 201), none, .bin .geq .i64 (.t 200) (.c (.int .i64 0)), none⟩,
  ⟨(some 202), none, .mv false (.t 201), none⟩,
  ⟨(some 203), some (202, true), .mv false (.t 19), none⟩,
  ⟨(some 204), some (202, true), .mv false (.t 1), none⟩,
  ⟨(some 205), some (202, true), .len false (.t 204), none⟩,
  ⟨(some 206), some (202, true), .bin .lss .i64 (.t 203) (.t 205), none⟩,
  ⟨(some 207), none, .pick (.t 202) (.t 206) (.c (.bool false)), none⟩,
  ⟨(some 8), none, .mv false (.t 207), none⟩] (some [8])) (
.ret)))))))))
set_option maxRecDepth 1000000 in
theorem comp_law52_LayoutTiles : (Try.f5.body.bind fun code => compC Try.prog Try.f5.ntmps code c_law52_LayoutTiles) = some c_law52_LayoutTiles.bare := by kernel_rfl
def r_law52_LayoutTiles : List R := [.t 8]
theorem spo_law52_LayoutTiles {ds : List D} {d : D} (hn : Nat.ble ds.length 208 = true) (h : run TSpM gtab 0 c_law52_LayoutTiles (retK r_law52_LayoutTiles (· = d)) ⟨env0 0 ds, []⟩) : TSp 5 ds d := Sp_of mixed c_law52_LayoutTiles r_law52_LayoutTiles (fn := Try.f5) (by kernel_rfl) (by kernel_rfl) comp_law52_LayoutTiles (by kernel_rfl) hn h
theorem spm_law52_LayoutTiles {ds : List D} {d : D} {bx bx' : List Ent} (hn : Nat.ble ds.length 208 = true) (h : run TSpM gtab (sizeE bx) c_law52_LayoutTiles (retG r_law52_LayoutTiles (fun d1 bx1 => Rt (sizeE bx) bx1 d1 d bx')) ⟨env0 0 ds, bx⟩) : TSpM 5 ds bx d bx' := SpM_of mixed c_law52_LayoutTiles r_law52_LayoutTiles (fn := Try.f5) (by kernel_rfl) (by kernel_rfl) comp_law52_LayoutTiles (by kernel_rfl) hn h
/-- glazier/glazierlaw52.LayoutMoves -/
def c_law52_LayoutMoves : C := .seq (.reg false [
  ⟨(some 4), none, .box true (.t 0), none⟩,
  ⟨(some 8), none, .mv false (.c (.bool false)), none⟩] (some [1, 2, 3, 4])) (
.seq (.seq (.reg false [
  ⟨(some 14), none, .call false 9 [], none⟩,
  ⟨(some 15), none, .not (.t 14), none⟩] (some [1, 2, 3, 4, 15])) (
.ite (.t 15) (
  .seq (.reg false [
    ⟨(some 8), none, .mv false (.c (.bool false)), none⟩] (some [8])) (
  .ret)) (
  .skip))) (
.seq (.seq (.reg false [
  ⟨(some 16), none, .mv false (.t 1), none⟩,
  ⟨(some 17), none, .call false 13 [(.t 16)], none⟩,
  ⟨(some 18), none, .not (.t 17), none⟩,
  ⟨(some 19), none, .mv false (.t 18), none⟩,
  ⟨(some 20), some (19, false), .fld 0 (.t 4), none⟩,
  ⟨(some 21), some (19, false), .ld none (.t 20), none⟩,
  ⟨(some 22), some (19, false), .bin .gtr .i64 (.t 21) (.c (.int .i64 1000)), none⟩,
  ⟨(some 23), none, .pick (.t 19) (.c (.bool true)) (.t 22), none⟩,
  ⟨(some 24), none, .mv false (.t 23), none⟩,
  ⟨(some 25), some (24, false), .fld 0 (.t 4), none⟩,
  ⟨(some 26), some (24, false), .ld none (.t 25), none⟩,
  ⟨(some 27), some (24, false), .bin .lss .i64 (.t 26) (.c (.int .i64 (-1000))), none⟩,
  ⟨(some 28), none, .pick (.t 24) (.c (.bool true)) (.t 27), none⟩,
  ⟨(some 29), none, .mv false (.t 28), none⟩,
  ⟨(some 30), some (29, false), .fld 1 (.t 4), none⟩,
  ⟨(some 31), some (29, false), .ld none (.t 30), none⟩,
  ⟨(some 32), some (29, false), .bin .gtr .i64 (.t 31) (.c (.int .i64 1000)), none⟩,
  ⟨(some 33), none, .pick (.t 29) (.c (.bool true)) (.t 32), none⟩,
  ⟨(some 34), none, .mv false (.t 33), none⟩,
  ⟨(some 35), some (34, false), .fld 1 (.t 4), none⟩,
  ⟨(some 36), some (34, false), .ld none (.t 35), none⟩,
  ⟨(some 37), some (34, false), .bin .lss .i64 (.t 36) (.c (.int .i64 (-1000))), none⟩,
  ⟨(some 38), none, .pick (.t 34) (.c (.bool true)) (.t 37), none⟩] (some [1, 2, 3, 4, 38])) (
.ite (.t 38) (
  .seq (.reg false [
    ⟨(some 8), none, .mv false (.c (.bool true)), none⟩] (some [8])) (
  .ret)) (
  .skip))) (
.seq (.reg false [
  ⟨(some 40), none, .ld (some 4) (.t 4), none⟩,
  ⟨(some 41), none, .mv false (.t 1), none⟩,
  ⟨(some 42), none, .call false 14 [(.t 40), (.t 41)], none⟩,
  ⟨(some 39), none, .mv false (.t 42), none⟩,
  ⟨(some 43), none, .ext (.t 39) 0, none⟩,
  ⟨(some 44), none, .ext (.t 39) 1, none⟩,
  ⟨(some 9), none, .mv false (.t 43), none⟩,
  ⟨(some 10), none, .mv false (.t 44), none⟩] (some [1, 2, 3, 4, 9, 10])) (
.seq (.reg false [
  ⟨(some 46), none, .fld 0 (.t 4), none⟩,
  ⟨(some 47), none, .ld none (.t 46), none⟩,
  ⟨(some 48), none, .mv false (.t 2), none⟩,
  ⟨(some 49), none, .conv .i64 (.t 48), none⟩,
  ⟨(some 50), none, .bin .add .i64 (.t 47) (.t 49), none⟩,
  ⟨(some 51), none, .fld 1 (.t 4), none⟩,
  ⟨(some 52), none, .ld none (.t 51), none⟩,
  ⟨(some 53), none, .mv false (.t 3), none⟩,
  ⟨(some 54), none, .conv .i64 (.t 53), none⟩,
  ⟨(some 55), none, .bin .add .i64 (.t 52) (.t 54), none⟩,
  ⟨(some 56), none, .fld 2 (.t 4), none⟩,
  ⟨(some 57), none, .ld none (.t 56), none⟩,
  ⟨(some 58), none, .fld 3 (.t 4), none⟩,
  ⟨(some 59), none, .ld none (.t 58), none⟩,
  ⟨(some 60), none, .bld [(.int .i64 0), (.int .i64 0), (.int .i64 0), (.int .i64 0)] [(0, none, (.t 50)), (1, none, (.t 55)), (2, none, (.t 57)), (3, none, (.t 59))], none⟩,
  ⟨(some 61), none, .mv false (.t 1), none⟩,
  ⟨(some 62), none, .call false 14 [(.t 60), (.t 61)], none⟩,
  ⟨(some 45), none, .mv false (.t 62), none⟩,
  ⟨(some 63), none, .ext (.t 45) 0, none⟩,
  ⟨(some 64), none, .ext (.t 45) 1, none⟩,
  ⟨(some 11), none, .mv false (.t 63), none⟩,
  ⟨(some 12), none, .mv false (.t 64), none⟩] (some [2, 3, 4, 9, 10, 11, 12])) (
.seq (.seq (.reg false [
  ⟨(some 65), none, .mv false (.t 10), none⟩,
  ⟨(some 66), none, .bin .neq .i64 (.t 65) (.c (.int .i64 0)), none⟩,
  ⟨(some 67), none, .mv false (.t 66), none⟩,
  ⟨(some 68), some (67, false), .mv false (.t 12), none⟩,
  ⟨(some 69), some (67, false), .bin .neq .i64 (.t 68) (.c (.int .i64 0)), none⟩,
  ⟨(some 70), none, .pick (.t 67) (.c (.bool true)) (.t 69), none⟩] (some [2, 3, 4, 9, 10, 11, 12, 70])) (
.ite (.t 70) (
  .seq (.reg false [
    ⟨(some 71), none, .mv false (.t 10), none⟩,
    ⟨(some 72), none, .mv false (.t 12), none⟩,
    ⟨(some 73), none, .bin .eql .i64 (.t 71) (.t 72), none⟩,
    ⟨(some 74), none, .mv false (.t 73), none⟩,
    ⟨(some 75), some (74, false), .fld 2 (.t 4), none⟩,
    ⟨(some 76), some (74, false), .ld none (.t 75), none⟩,
    ⟨(some 77), some (74, false), .bin .gtr .i64 (.t 76) (.c (.int .i64 1000000)), none⟩,
    ⟨(some 78), none, .pick (.t 74) (.c (.bool true)) (.t 77), none⟩,
    ⟨(some 79), none, .mv false (.t 78), none⟩,
    ⟨(some 80), some (79, false), .fld 3 (.t 4), none⟩,
    ⟨(some 81), some (79, false), .ld none (.t 80), none⟩,
    ⟨(some 82), some (79, false), .bin .gtr .i64 (.t 81) (.c (.int .i64 1000000)), none⟩,
    ⟨(some 83), none, .pick (.t 79) (.c (.bool true)) (.t 82), none⟩,
    ⟨(some 8), none, .mv false (.t 83), none⟩] (some [8])) (
  .ret)) (
  .skip))) (
.seq (.seq (.reg false [
  ⟨(some 84), none, .mv false (.t 9), none⟩,
  ⟨(some 85), none, .len false (.t 84), none⟩,
  ⟨(some 86), none, .mv false (.t 11), none⟩,
  ⟨(some 87), none, .len false (.t 86), none⟩,
  ⟨(some 88), none, .bin .neq .i64 (.t 85) (.t 87), none⟩] (some [2, 3, 9, 11, 88])) (
.ite (.t 88) (
  .seq (.reg false [
    ⟨(some 8), none, .mv false (.c (.bool false)), none⟩] (some [8])) (
  .ret)) (
  .skip))) (
.seq (.seq (.reg false [
  ⟨(some 13), none, .mv false (.c (.int .i64 0)), none⟩] (some [2, 3, 9, 11, 13])) (
.blk 0 (
  .loop (
    .seq (.seq (.reg false [
      ⟨(some 89), none, .mv false (.t 13), none⟩,
      ⟨(some 90), none, .mv false (.t 9), none⟩,
      ⟨(some 91), none, .len false (.t 90), none⟩,
      ⟨(some 92), none, .bin .lss .i64 (.t 89) (.t 91), none⟩] (some [2, 3, 9, 11, 13, 92])) (
    .ite (.t 92) (
      .skip) (
      .exit 0))) (
    .seq (.blk 1 (
      .seq (.reg true [
        ⟨(some 95), none, .mv false (.t 11), none⟩,
        ⟨(some 96), none, .mv false (.t 13), none⟩,
        ⟨(some 97), none, .ixs 4 (.t 95) (.t 96), none⟩,
        ⟨(some 98), none, .ld (some 4) (.t 97), none⟩,
        ⟨(some 99), none, .mv false (.t 9), none⟩,
        ⟨(some 100), none, .mv false (.t 13), none⟩,
        ⟨(some 101), none, .ixs 4 (.t 99) (.t 100), none⟩,
        ⟨(some 102), none, .ld (some 4) (.t 101), none⟩,
        ⟨(some 103), none, .mv false (.t 2), none⟩,
        ⟨(some 104), none, .conv .i64 (.t 103), none⟩,
        ⟨(some 105), none, .mv false (.t 3), none⟩,
        ⟨(some 106), none, .conv .i64 (.t 105), none⟩,
        ⟨(some 107), none, .call false 19 [(.t 102), (.t 104), (.t 106)], none⟩,
        ⟨(some 108), none, .eqS true [.i .i64, .i .i64, .i .i64, .i .i64] (.t 98) (.t 107), none⟩] (some [2, 3, 9, 11, 13, 108])) (
      .ite (.t 108) (
        .seq (.reg false [
          ⟨(some 8), none, .mv false (.c (.bool false)), none⟩] (some [8])) (
        .ret)) (
        .skip)))) (
    .reg false [
      ⟨(some 93), none, .mv false (.t 13), none⟩,
      ⟨(some 94), none, .bin .add .i64 (.t 93) (.c (.int .i64 1)), none⟩,
      ⟨(some 13), none, .mv false (.t 94), none⟩] (some [2, 3, 9, 11, 13]))))))) (
.seq (.reg false [
  ⟨(some 8), none, .mv false (.c (.bool true)), none⟩] (some [8])) (
.ret)))))))))
set_option maxRecDepth 1000000 in
theorem comp_law52_LayoutMoves : (Try.f6.body.bind fun code => compC Try.prog Try.f6.ntmps code c_law52_LayoutMoves) = some c_law52_LayoutMoves.bare := by kernel_rfl
def r_law52_LayoutMoves : List R := [.t 8]
theorem spo_law52_LayoutMoves {ds : List D} {d : D} (hn : Nat.ble ds.length 109 = true) (h : run TSpM gtab 0 c_law52_LayoutMoves (retK r_law52_LayoutMoves (· = d)) ⟨env0 0 ds, []⟩) : TSp 6 ds d := Sp_of mixed c_law52_LayoutMoves r_law52_LayoutMoves (fn := Try.f6) (by kernel_rfl) (by kernel_rfl) comp_law52_LayoutMoves (by kernel_rfl) hn h
theorem spm_law52_LayoutMoves {ds : List D} {d : D} {bx bx' : List Ent} (hn : Nat.ble ds.length 109 = true) (h : run TSpM gtab (sizeE bx) c_law52_LayoutMoves (retG r_law52_LayoutMoves (fun d1 bx1 => Rt (sizeE bx) bx1 d1 d bx')) ⟨env0 0 ds, bx⟩) : TSpM 6 ds bx d bx' := SpM_of mixed c_law52_LayoutMoves r_law52_LayoutMoves (fn := Try.f6) (by kernel_rfl) (by kernel_rfl) comp_law52_LayoutMoves (by kernel_rfl) hn h
/-- glazier/glazierlaw52.LayoutLeast -/
def c_law52_LayoutLeast : C := .seq (.reg false [
  ⟨(some 4), none, .mv false (.c (.bool false)), none⟩] (some [0, 1])) (
.seq (.seq (.reg false [
  ⟨(some 14), none, .call false 9 [], none⟩,
  ⟨(some 15), none, .not (.t 14), none⟩] (some [0, 1, 15])) (
.ite (.t 15) (
  .seq (.reg false [
    ⟨(some 4), none, .mv false (.c (.bool false)), none⟩] (some [4])) (
  .ret)) (
  .skip))) (
.seq (.seq (.reg false [
  ⟨(some 16), none, .mv false (.t 0), none⟩,
  ⟨(some 17), none, .call false 13 [(.t 16)], none⟩,
  ⟨(some 18), none, .not (.t 17), none⟩,
  ⟨(some 19), none, .mv false (.t 18), none⟩,
  ⟨(some 20), some (19, false), .mv false (.t 0), none⟩,
  ⟨(some 21), some (19, false), .call false 20 [(.t 20)], none⟩,
  ⟨(some 22), some (19, false), .bin .neq .i64 (.t 21) (.c (.int .i64 0)), none⟩,
  ⟨(some 23), none, .pick (.t 19) (.c (.bool true)) (.t 22), none⟩] (some [0, 1, 23])) (
.ite (.t 23) (
  .seq (.reg false [
    ⟨(some 4), none, .mv false (.c (.bool true)), none⟩] (some [4])) (
  .ret)) (
  .skip))) (
.seq (.reg false [
  ⟨(some 25), none, .mv false (.t 0), none⟩,
  ⟨(some 26), none, .call false 21 [(.t 25)], none⟩,
  ⟨(some 24), none, .mv false (.t 26), none⟩,
  ⟨(some 27), none, .ext (.t 24) 0, none⟩,
  ⟨(some 28), none, .ext (.t 24) 1, none⟩,
  ⟨(some 5), none, .mv false (.t 27), none⟩,
  ⟨(some 6), none, .mv false (.t 28), none⟩] (some [0, 1, 5, 6])) (
.seq (.seq (.reg false [
  ⟨(some 29), none, .mv false (.t 5), none⟩,
  ⟨(some 30), none, .bin .lss .i64 (.t 29) (.c (.int .i64 1)), none⟩,
  ⟨(some 31), none, .mv false (.t 30), none⟩,
  ⟨(some 32), some (31, false), .mv false (.t 6), none⟩,
  ⟨(some 33), some (31, false), .bin .lss .i64 (.t 32) (.c (.int .i64 1)), none⟩,
  ⟨(some 34), none, .pick (.t 31) (.c (.bool true)) (.t 33), none⟩] (some [0, 1, 5, 6, 34])) (
.ite (.t 34) (
  .seq (.reg false [
    ⟨(some 35), none, .mv false (.t 5), none⟩,
    ⟨(some 36), none, .bin .geq .i64 (.t 35) (.c (.int .i64 0)), none⟩,
    ⟨(some 37), none, .mv false (.t 36), none⟩,
    ⟨(some 38), some (37, true), .mv false (.t 6), none⟩,
    ⟨(some 39), some (37, true), .bin .geq .i64 (.t 38) (.c (.int .i64 0)), none⟩,
    ⟨(some 40), none, .pick (.t 37) (.t 39) (.c (.bool false)), none⟩,
    ⟨(some 4), none, .mv false (.t 40), none⟩] (some [4])) (
  .ret)) (
  .skip))) (
.seq (.reg false [
  ⟨(some 42), none, .mv false (.t 5), none⟩,
  ⟨(some 43), none, .mv false (.t 1), none⟩,
  ⟨(some 44), none, .conv .i64 (.t 43), none⟩,
  ⟨(some 45), none, .bin .rem .i64 (.t 44) (.c (.int .i64 7)), none⟩,
  ⟨(some 46), none, .bin .add .i64 (.t 42) (.t 45), none⟩,
  ⟨(some 47), none, .mv false (.t 6), none⟩,
  ⟨(some 48), none, .mv false (.t 1), none⟩,
  ⟨(some 49), none, .conv .i64 (.t 48), none⟩,
  ⟨(some 50), none, .bin .rem .i64 (.t 49) (.c (.int .i64 5)), none⟩,
  ⟨(some 51), none, .bin .add .i64 (.t 47) (.t 50), none⟩,
  ⟨(some 52), none, .bld [(.int .i64 0), (.int .i64 0), (.int .i64 0), (.int .i64 0)] [(2, none, (.t 46)), (3, none, (.t 51))], none⟩,
  ⟨(some 53), none, .mv false (.t 0), none⟩,
  ⟨(some 54), none, .call false 14 [(.t 52), (.t 53)], none⟩,
  ⟨(some 41), none, .mv false (.t 54), none⟩,
  ⟨(some 55), none, .ext (.t 41) 0, none⟩,
  ⟨(some 56), none, .ext (.t 41) 1, none⟩,
  ⟨(some 7), none, .mv false (.t 55), none⟩,
  ⟨(some 8), none, .mv false (.t 56), none⟩] (some [0, 5, 6, 7, 8])) (
.seq (.reg false [
  ⟨(some 58), none, .mv false (.t 5), none⟩,
  ⟨(some 59), none, .bin .sub .i64 (.t 58) (.c (.int .i64 1)), none⟩,
  ⟨(some 60), none, .mv false (.t 6), none⟩,
  ⟨(some 61), none, .bld [(.int .i64 0), (.int .i64 0), (.int .i64 0), (.int .i64 0)] [(2, none, (.t 59)), (3, none, (.t 60))], none⟩,
  ⟨(some 62), none, .mv false (.t 0), none⟩,
  ⟨(some 63), none, .call false 14 [(.t 61), (.t 62)], none⟩,
  ⟨(some 57), none, .mv false (.t 63), none⟩,
  ⟨(some 64), none, .ext (.t 57) 0, none⟩,
  ⟨(some 65), none, .ext (.t 57) 1, none⟩,
  ⟨(some 9), none, .mv false (.t 64), none⟩,
  ⟨(some 10), none, .mv false (.t 65), none⟩] (some [0, 5, 6, 7, 8, 10])) (
.seq (.reg false [
  ⟨(some 67), none, .mv false (.t 5), none⟩,
  ⟨(some 68), none, .mv false (.t 6), none⟩,
  ⟨(some 69), none, .bin .sub .i64 (.t 68) (.c (.int .i64 1)), none⟩,
  ⟨(some 70), none, .bld [(.int .i64 0), (.int .i64 0), (.int .i64 0), (.int .i64 0)] [(2, none, (.t 67)), (3, none, (.t 69))], none⟩,
  ⟨(some 71), none, .mv false (.t 0), none⟩,
  ⟨(some 72), none, .call false 14 [(.t 70), (.t 71)], none⟩,
  ⟨(some 66), none, .mv false (.t 72), none⟩,
  ⟨(some 73), none, .ext (.t 66) 0, none⟩,
  ⟨(some 74), none, .ext (.t 66) 1, none⟩,
  ⟨(some 11), none, .mv false (.t 73), none⟩,
  ⟨(some 12), none, .mv false (.t 74), none⟩] (some [0, 5, 6, 7, 8, 10, 12])) (
.seq (.seq (.reg false [
  ⟨(some 75), none, .mv false (.t 8), none⟩,
  ⟨(some 76), none, .bin .neq .i64 (.t 75) (.c (.int .i64 0)), none⟩,
  ⟨(some 77), none, .mv false (.t 76), none⟩,
  ⟨(some 78), some (77, false), .mv false (.t 10), none⟩,
  ⟨(some 79), some (77, false), .bin .neq .i64 (.t 78) (.c (.int .i64 17)), none⟩,
  ⟨(some 80), some (77, false), .mv false (.t 79), none⟩,
  ⟨(some 81), some (80, true), .mv false (.t 5), none⟩,
  ⟨(some 82), some (80, true), .bin .gtr .i64 (.t 81) (.c (.int .i64 1)), none⟩,
  ⟨(some 83), some (77, false), .pick (.t 80) (.t 82) (.c (.bool false)), none⟩,
  ⟨(some 84), none, .pick (.t 77) (.c (.bool true)) (.t 83), none⟩,
  ⟨(some 85), none, .mv false (.t 84), none⟩,
  ⟨(some 86), some (85, false), .mv false (.t 12), none⟩,
  ⟨(some 87), some (85, false), .bin .neq .i64 (.t 86) (.c (.int .i64 17)), none⟩,
  ⟨(some 88), some (85, false), .mv false (.t 87), none⟩,
  ⟨(some 89), some (88, true), .mv false (.t 6), none⟩,
  ⟨(some 90), some (88, true), .bin .gtr .i64 (.t 89) (.c (.int .i64 1)), none⟩,
  ⟨(some 91), some (85, false), .pick (.t 88) (.t 90) (.c (.bool false)), none⟩,
  ⟨(some 92), none, .pick (.t 85) (.c (.bool true)) (.t 91), none⟩,
  ⟨(some 93), none, .mv false (.t 92), none⟩,
  ⟨(some 94), some (93, false), .mv false (.t 7), none⟩,
  ⟨(some 95), some (93, false), .len false (.t 94), none⟩,
  ⟨(some 96), some (93, false), .mv false (.t 0), none⟩,
  ⟨(some 97), some (93, false), .len false (.t 96), none⟩,
  ⟨(some 98), some (93, false), .bin .neq .i64 (.t 95) (.t 97), none⟩,
  ⟨(some 99), none, .pick (.t 93) (.c (.bool true)) (.t 98), none⟩] (some [0, 7, 99])) (
.ite (.t 99) (
  .seq (.reg false [
    ⟨(some 4), none, .mv false (.c (.bool false)), none⟩] (some [4])) (
  .ret)) (
  .skip))) (
.seq (.seq (.reg false [
  ⟨(some 13), none, .mv false (.c (.int .i64 0)), none⟩] (some [0, 7, 13])) (
.blk 0 (
  .loop (
    .seq (.seq (.reg false [
      ⟨(some 100), none, .mv false (.t 13), none⟩,
      ⟨(some 101), none, .mv false (.t 7), none⟩,
      ⟨(some 102), none, .len false (.t 101), none⟩,
      ⟨(some 103), none, .bin .lss .i64 (.t 100) (.t 102), none⟩] (some [0, 7, 13, 103])) (
    .ite (.t 103) (
      .skip) (
      .exit 0))) (
    .seq (.blk 1 (
      .seq (.reg true [
        ⟨(some 106), none, .mv false (.t 7), none⟩,
        ⟨(some 107), none, .mv false (.t 13), none⟩,
        ⟨(some 108), none, .ixs 4 (.t 106) (.t 107), none⟩,
        ⟨(some 109), none, .ld (some 4) (.t 108), none⟩,
        ⟨(some 110), none, .bld [(.int .i64 0), (.int .i64 0), (.int .i64 0), (.int .i64 0)] [], none⟩,
        ⟨(some 111), none, .eqS true [.i .i64, .i .i64, .i .i64, .i .i64] (.t 109) (.t 110), none⟩,
        ⟨(some 112), none, .mv false (.t 111), none⟩,
        ⟨(some 113), some (112, true), .mv false (.t 7), none⟩,
        ⟨(some 114), some (112, true), .mv false (.t 13), none⟩,
        ⟨(some 115), some (112, true), .ixs 4 (.t 113) (.t 114), none⟩,
        ⟨(some 116), some (112, true), .fld 2 (.t 115), none⟩,
        ⟨(some 117), some (112, true), .ld none (.t 116), none⟩,
        ⟨(some 118), some (112, true), .mv false (.t 0), none⟩,
        ⟨(some 119), some (112, true), .mv false (.t 13), none⟩,
        ⟨(some 120), some (112, true), .ixs 6 (.t 118) (.t 119), none⟩,
        ⟨(some 121), some (112, true), .fld 2 (.t 120), none⟩,
        ⟨(some 122), some (112, true), .ld none (.t 121), none⟩,
        ⟨(some 123), some (112, true), .bin .lss .i64 (.t 117) (.t 122), none⟩,
        ⟨(some 124), some (112, true), .mv false (.t 123), none⟩,
        ⟨(some 125), some (124, false), .mv false (.t 7), none⟩,
        ⟨(some 126), some (124, false), .mv false (.t 13), none⟩,
        ⟨(some 127), some (124, false), .ixs 4 (.t 125) (.t 126), none⟩,
        ⟨(some 128), some (124, false), .fld 3 (.t 127), none⟩,
        ⟨(some 129), some (124, false), .ld none (.t 128), none⟩,
        ⟨(some 130), some (124, false), .mv false (.t 0), none⟩,
        ⟨(some 131), some (124, false), .mv false (.t 13), none⟩,
        ⟨(some 132), some (124, false), .ixs 6 (.t 130) (.t 131), none⟩,
        ⟨(some 133), some (124, false), .fld 3 (.t 132), none⟩,
        ⟨(some 134), some (124, false), .ld none (.t 133), none⟩,
        ⟨(some 135), some (124, false), .bin .lss .i64 (.t 129) (.t 134), none⟩,
        ⟨(some 136), some (112, true), .pick (.t 124) (.c (.bool true)) (.t 135), none⟩,
        ⟨(some 137), none, .pick (.t 112) (.t 136) (.c (.bool false)), none⟩,
        ⟨(some 138), none, .mv false (.t 137), none⟩,
        ⟨(some 139), some (138, false), .mv false (.t 7), none⟩,
        ⟨(some 140), some (138, false), .mv false (.t 13), none⟩,
        ⟨(some 141), some (138, false), .ixs 4 (.t 139) (.t 140), none⟩,
        ⟨(some 142), some (138, false), .ld (some 4) (.t 141), none⟩,
        ⟨(some 143), some (138, false), .bld [(.int .i64 0), (.int .i64 0), (.int .i64 0), (.int .i64 0)] [], none⟩,
        ⟨(some 144), some (138, false), .eqS false [.i .i64, .i .i64, .i .i64, .i .i64] (.t 142) (.t 143), none⟩,
        ⟨(some 145), some (138, false), .mv false (.t 144), none⟩,
        ⟨(some 146), some (145, true), .mv false (.t 0), none⟩,
        ⟨(some 147), some (145, true), .mv false (.t 13), none⟩,
        ⟨(some 148), some (145, true), .ixs 6 (.t 146) (.t 147), none⟩,
        ⟨(some 149), some (145, true), .fld 2 (.t 148), none⟩,
        ⟨(some 150), some (145, true), .ld none (.t 149), none⟩,
        ⟨(some 151), some (145, true), .bin .gtr .i64 (.t 150) (.c (.int .i64 0)), none⟩,
        ⟨(some 152), some (138, false), .pick (.t 145) (.t 151) (.c (.bool false)), none⟩,
        ⟨(some 153), some (138, false), .mv false (.t 152), none⟩,
        ⟨(some 154), some (153, true), .mv false (.t 0), none⟩,
        ⟨(some 155), some (153, true), .mv false (.t 13), none⟩,
        ⟨(some 156), some (153, true), .ixs 6 (.t 154) (.t 155), none⟩,
        ⟨(some 157), some (153, true), .fld 3 (.t 156), none⟩,
        ⟨(some 158), some (153, true), .ld none (.t 157), none⟩,
        ⟨(some 159), some (153, true), .bin .gtr .i64 (.t 158) (.c (.int .i64 0)), none⟩,
        ⟨(some 160), some (138, false), .pick (.t 153) (.t 159) (.c (.bool false)), none⟩,
        ⟨(some 161), none, .pick (.t 138) (.c (.bool true)) (.t 160), none⟩] (some [0, 7, 13, 161])) (
      .ite (.t 161) (
        .seq (.reg false [
          ⟨(some 4), none, .mv false (.c (.bool false)), none⟩] (some [4])) (
        .ret)) (
        .skip)))) (
    .reg false [
      ⟨(some 104), none, .mv false (.t 13), none⟩,
      ⟨(some 105), none, .bin .add .i64 (.t 104) (.c (.int .i64 1)), none⟩,
      ⟨(some 13), none, .mv false (.t 105), none⟩] (some [0, 7, 13]))))))) (
.seq (.reg false [
  ⟨(some 4), none, .mv false (.c (.bool true)), none⟩] (some [4])) (
.ret)))))))))))
set_option maxRecDepth 1000000 in
theorem comp_law52_LayoutLeast : (Try.f7.body.bind fun code => compC Try.prog Try.f7.ntmps code c_law52_LayoutLeast) = some c_law52_LayoutLeast.bare := by kernel_rfl
def r_law52_LayoutLeast : List R := [.t 4]
theorem spo_law52_LayoutLeast {ds : List D} {d : D} (hn : Nat.ble ds.length 162 = true) (h : run TSpM gtab 0 c_law52_LayoutLeast (retK r_law52_LayoutLeast (· = d)) ⟨env0 0 ds, []⟩) : TSp 7 ds d := Sp_of mixed c_law52_LayoutLeast r_law52_LayoutLeast (fn := Try.f7) (by kernel_rfl) (by kernel_rfl) comp_law52_LayoutLeast (by kernel_rfl) hn h
theorem spm_law52_LayoutLeast {ds : List D} {d : D} {bx bx' : List Ent} (hn : Nat.ble ds.length 162 = true) (h : run TSpM gtab (sizeE bx) c_law52_LayoutLeast (retG r_law52_LayoutLeast (fun d1 bx1 => Rt (sizeE bx) bx1 d1 d bx')) ⟨env0 0 ds, bx⟩) : TSpM 7 ds bx d bx' := SpM_of mixed c_law52_LayoutLeast r_law52_LayoutLeast (fn := Try.f7) (by kernel_rfl) (by kernel_rfl) comp_law52_LayoutLeast (by kernel_rfl) hn h
/-- glazier/glazierlaw52.LayoutAt -/
def c_law52_LayoutAt : C := .seq (.reg false [
  ⟨(some 6), none, .mv false (.c (.bool false)), none⟩] (some [0, 1, 2])) (
.seq (.seq (.reg false [
  ⟨(some 8), none, .call false 9 [], none⟩,
  ⟨(some 9), none, .not (.t 8), none⟩] (some [0, 1, 2, 9])) (
.ite (.t 9) (
  .seq (.reg false [
    ⟨(some 6), none, .mv false (.c (.bool false)), none⟩] (some [6])) (
  .ret)) (
  .skip))) (
.seq (.seq (.reg false [
  ⟨(some 10), none, .mv false (.t 0), none⟩,
  ⟨(some 11), none, .len false (.t 10), none⟩,
  ⟨(some 12), none, .bin .gtr .i64 (.t 11) (.c (.int .i64 100)), none⟩] (some [0, 1, 2, 12])) (
.ite (.t 12) (
  .seq (.reg false [
    ⟨(some 6), none, .mv false (.c (.bool true)), none⟩] (some [6])) (
  .ret)) (
  .skip))) (
.seq (.reg false [
  ⟨(some 13), none, .mv false (.t 1), none⟩,
  ⟨(some 14), none, .mv false (.t 2), none⟩,
  ⟨(some 15), none, .mv false (.t 0), none⟩,
  ⟨(some 16), none, .call false 18 [(.t 13), (.t 14), (.t 15)], none⟩,
  ⟨(some 7), none, .mv false (.t 16), none⟩] (some [0, 1, 2, 7])) (
.seq (.reg false [
  ⟨(some 17), none, .mv false (.t 7), none⟩,
  ⟨(some 18), none, .mv false (.t 1), none⟩,
  ⟨(some 19), none, .mv false (.t 2), none⟩,
  ⟨(some 20), none, .mv false (.t 0), none⟩,
  ⟨(some 21), none, .call false 22 [(.t 18), (.t 19), (.t 20)], none⟩,
  ⟨(some 22), none, .bin .eql .i64 (.t 17) (.t 21), none⟩,
  ⟨(some 23), none, .mv false (.t 22), none⟩,
  ⟨(some 24), some (23, true), .mv false (.t 7), none⟩,
  ⟨(some 25), some (23, true), .bin .geq .i64 (.t 24) (.c (.int .i64 (-1))), none⟩,
  ⟨(some 26), none, .pick (.t 23) (.t 25) (.c (.bool false)), none⟩,
  ⟨(some 27), none, .mv false (.t 26), none⟩,
  ⟨(some 28), some (27, true), .mv false (.t 7), none⟩,
  ⟨(some 29), some (27, true), .mv false (.t 0), none⟩,
  ⟨(some 30), some (27, true), .len false (.t 29), none⟩,
  ⟨(some 31), some (27, true), .bin .lss .i64 (.t 28) (.t 30), none⟩,
  ⟨(some 32), none, .pick (.t 27) (.t 31) (.c (.bool false)), none⟩,
  ⟨(some 6), none, .mv false (.t 32), none⟩] (some [6])) (
.ret)))))
set_option maxRecDepth 1000000 in
theorem comp_law52_LayoutAt : (Try.f8.body.bind fun code => compC Try.prog Try.f8.ntmps code c_law52_LayoutAt) = some c_law52_LayoutAt.bare := by kernel_rfl
def r_law52_LayoutAt : List R := [.t 6]
theorem spo_law52_LayoutAt {ds : List D} {d : D} (hn : Nat.ble ds.length 33 = true) (h : run TSpM gtab 0 c_law52_LayoutAt (retK r_law52_LayoutAt (· = d)) ⟨env0 0 ds, []⟩) : TSp 8 ds d := Sp_of mixed c_law52_LayoutAt r_law52_LayoutAt (fn := Try.f8) (by kernel_rfl) (by kernel_rfl) comp_law52_LayoutAt (by kernel_rfl) hn h
theorem spm_law52_LayoutAt {ds : List D} {d : D} {bx bx' : List Ent} (hn : Nat.ble ds.length 33 = true) (h : run TSpM gtab (sizeE bx) c_law52_LayoutAt (retG r_law52_LayoutAt (fun d1 bx1 => Rt (sizeE bx) bx1 d1 d bx')) ⟨env0 0 ds, bx⟩) : TSpM 8 ds bx d bx' := SpM_of mixed c_law52_LayoutAt r_law52_LayoutAt (fn := Try.f8) (by kernel_rfl) (by kernel_rfl) comp_law52_LayoutAt (by kernel_rfl) hn h
/-- glazier/glazierlaw52.awake -/
def c_law52_awake : C := .seq (.reg false [
  ⟨(some 0), none, .mv false (.c (.bool false)), none⟩] (some [])) (
.seq (.reg false [
  ⟨(some 8), none, .call false 23 [], none⟩,
  ⟨(some 9), none, .call false 21 [(.t 8)], none⟩,
  ⟨(some 7), none, .mv false (.t 9), none⟩,
  ⟨(some 10), none, .ext (.t 7) 0, none⟩,
  ⟨(some 11), none, .ext (.t 7) 1, none⟩,
  ⟨(some 1), none, .mv false (.t 10), none⟩,
  ⟨(some 2), none, .mv false (.t 11), none⟩] (some [1, 2])) (
.seq (.reg false [
  ⟨(some 13), none, .bld [(.int .i64 0), (.int .i64 0), (.int .i64 0), (.int .i64 0)] [(2, none, (.c (.int .i64 10))), (3, none, (.c (.int .i64 5)))], none⟩,
  ⟨(some 14), none, .call false 23 [], none⟩,
  ⟨(some 15), none, .call false 14 [(.t 13), (.t 14)], none⟩,
  ⟨(some 12), none, .mv false (.t 15), none⟩,
  ⟨(some 16), none, .ext (.t 12) 0, none⟩,
  ⟨(some 17), none, .ext (.t 12) 1, none⟩,
  ⟨(some 3), none, .mv false (.t 16), none⟩,
  ⟨(some 4), none, .mv false (.t 17), none⟩] (some [1, 2, 3, 4])) (
.seq (.reg false [
  ⟨(some 19), none, .bsl none 3 1 none [(.c (.int .i64 1)), (.c (.int .i64 1))], none⟩,
  ⟨(some 20), none, .bsl none 3 1 none [(.c (.int .i64 1)), (.c (.int .i64 2))], none⟩,
  ⟨(some 21), none, .call false 10 [(.c (.int .i64 10)), (.t 19), (.t 20)], none⟩,
  ⟨(some 18), none, .mv false (.t 21), none⟩,
  ⟨(some 22), none, .ext (.t 18) 0, none⟩,
  ⟨(some 23), none, .ext (.t 18) 1, none⟩,
  ⟨(some 5), none, .mv false (.t 22), none⟩,
  ⟨(some 6), none, .mv false (.t 23), none⟩] (some [1, 2, 3, 4, 5, 6])) (
.seq (.reg false [
  ⟨(some 24), none, .mv false (.t 1), none⟩,
  ⟨(some 25), none, .bin .eql .i64 (.t 24) (.c (.int .i64 6)), none⟩,
  ⟨(some 26), none, .mv false (.t 25), none⟩,
  ⟨(some 27), some (26, true), .mv false (.t 2), none⟩,
  ⟨(some 28), some (26, true), .bin .eql .i64 (.t 27) (.c (.int .i64 4)), none⟩,
  ⟨(some 29), none, .pick (.t 26) (.t 28) (.c (.bool false)), none⟩,
  ⟨(some 30), none, .mv false (.t 29), none⟩,
  ⟨(some 31), some (30, true), .mv false (.t 4), none⟩,
  ⟨(some 32), some (30, true), .bin .eql .i64 (.t 31) (.c (.int .i64 0)), none⟩,
  ⟨(some 33), none, .pick (.t 30) (.t 32) (.c (.bool false)), none⟩,
  ⟨(some 34), none, .mv false (.t 33), none⟩,
  ⟨(some 35), some (34, true), .mv false (.t 6), none⟩,
  ⟨(some 36), some (34, true), .bin .eql .i64 (.t 35) (.c (.int .i64 0)), none⟩,
  ⟨(some 37), none, .pick (.t 34) (.t 36) (.c (.bool false)), none⟩,
  ⟨(some 38), none, .mv false (.t 37), none⟩,
  ⟨(some 39), some (38, true), .mv false (.t 3), none⟩,
  ⟨(some 40), some (38, true), .len false (.t 39), none⟩,
  ⟨(some 41), some (38, true), .bin .eql .i64 (.t 40) (.c (.int .i64 3)), none⟩,
  ⟨(some 42), none, .pick (.t 38) (.t 41) (.c (.bool false)), none⟩,
  ⟨(some 43), none, .mv false (.t 42), none⟩,
  ⟨(some 44), some (43, true), .mv false (.t 3), none⟩,
  ⟨(some 45), some (43, true), .ixs 4 (.t 44) (.c (.int .i64 1)), none⟩,
  ⟨(some 46), some (43, true), .ld (some 4) (.t 45), none⟩,
  ⟨(some 47), some (43, true), .bld [(.int .i64 0), (.int .i64 0), (.int .i64 0), (.int .i64 0)] [(2, none, (.c (.int .i64 3))), (3, none, (.c (.int .i64 5)))], none⟩,
  ⟨(some 48), some (43, true), .eqS false [.i .i64, .i .i64, .i .i64, .i .i64] (.t 46) (.t 47), none⟩,
  ⟨(some 49), none, .pick (.t 43) (.t 48) (.c (.bool false)), none⟩,
  ⟨(some 50), none, .mv false (.t 49), none⟩,
  ⟨(some 51), some (50, true), .mv false (.t 3), none⟩,
  ⟨(some 52), some (50, true), .ixs 4 (.t 51) (.c (.int .i64 2)), none⟩,
  ⟨(some 53), some (50, true), .ld (some 4) (.t 52), none⟩,
  ⟨(some 54), some (50, true), .bld [(.int .i64 0), (.int .i64 0), (.int .i64 0), (.int .i64 0)] [(0, none, (.c (.int .i64 4))), (2, none, (.c (.int .i64 6))), (3, none, (.c (.int .i64 5)))], none⟩,
  ⟨(some 55), some (50, true), .eqS false [.i .i64, .i .i64, .i .i64, .i .i64] (.t 53) (.t 54), none⟩,
  ⟨(some 56), none, .pick (.t 50) (.t 55) (.c (.bool false)), none⟩,
  ⟨(some 57), none, .mv false (.t 56), none⟩,
  ⟨(some 58), some (57, true), .mv false (.t 5), none⟩,
  ⟨(some 59), some (57, true), .bsl none 3 1 none [(.c (.int .i64 3)), (.c (.int .i64 7))], none⟩,
  ⟨(some 60), some (57, true), .call false 12 [(.t 58), (.t 59)], none⟩,
  ⟨(some 61), none, .pick (.t 57) (.t 60) (.c (.bool false)), none⟩,
  ⟨(some 62), none, .mv false (.t 61), none⟩,
  ⟨(some 63), some (62, true), .mv false (.t 3), none⟩,
  ⟨(some 64), some (62, true), .call false 18 [(.c (.int .i64 4)), (.c (.int .i64 4)), (.t 63)], none⟩,
  ⟨(some 65), some (62, true), .bin .eql .i64 (.t 64) (.c (.int .i64 2)), none⟩,
  ⟨(some 66), none, .pick (.t 62) (.t 65) (.c (.bool false)), none⟩,
  ⟨(some 67), none, .mv false (.t 66), none⟩,
  ⟨(some 68), some (67, true), .mv false (.t 3), none⟩,
  ⟨(some 69), some (67, true), .call false 18 [(.c (.int .i64 3)), (.c (.int .i64 0)), (.t 68)], none⟩,
  ⟨(some 70), some (67, true), .bin .eql .i64 (.t 69) (.c (.int .i64 0)), none⟩,
  ⟨(some 71), none, .pick (.t 67) (.t 70) (.c (.bool false)), none⟩,
  ⟨(some 0), none, .mv false (.t 71), none⟩] (some [0])) (
.ret)))))
set_option maxRecDepth 1000000 in
theorem comp_law52_awake : (Try.f9.body.bind fun code => compC Try.prog Try.f9.ntmps code c_law52_awake) = some c_law52_awake.bare := by kernel_rfl
def r_law52_awake : List R := [.t 0]
theorem spo_law52_awake {ds : List D} {d : D} (hn : Nat.ble ds.length 72 = true) (h : run TSpM gtab 0 c_law52_awake (retK r_law52_awake (· = d)) ⟨env0 0 ds, []⟩) : TSp 9 ds d := Sp_of mixed c_law52_awake r_law52_awake (fn := Try.f9) (by kernel_rfl) (by kernel_rfl) comp_law52_awake (by kernel_rfl) hn h
theorem spm_law52_awake {ds : List D} {d : D} {bx bx' : List Ent} (hn : Nat.ble ds.length 72 = true) (h : run TSpM gtab (sizeE bx) c_law52_awake (retG r_law52_awake (fun d1 bx1 => Rt (sizeE bx) bx1 d1 d bx')) ⟨env0 0 ds, bx⟩) : TSpM 9 ds bx d bx' := SpM_of mixed c_law52_awake r_law52_awake (fn := Try.f9) (by kernel_rfl) (by kernel_rfl) comp_law52_awake (by kernel_rfl) hn h
/-- glazier/layout.Split -/
def c_layout_Split : C := .seq (.reg false [
  ⟨(some 6), none, .nilS 3 1, none⟩,
  ⟨(some 7), none, .mv false (.c (.int .i64 0)), none⟩] (some [0, 1, 2])) (
.seq (.seq (.reg false [
  ⟨(some 17), none, .mv false (.t 1), none⟩,
  ⟨(some 18), none, .len false (.t 17), none⟩,
  ⟨(some 19), none, .mv false (.t 2), none⟩,
  ⟨(some 20), none, .len false (.t 19), none⟩,
  ⟨(some 21), none, .bin .neq .i64 (.t 18) (.t 20), none⟩] (some [0, 1, 2, 21])) (
.ite (.t 21) (
  .seq (.reg false [
    ⟨(some 6), none, .nilS 3 1, none⟩,
    ⟨(some 7), none, .mv false (.c (.int .i64 14)), none⟩] (some [6, 7])) (
  .ret)) (
  .skip))) (
.seq (.seq (.reg false [
  ⟨(some 22), none, .mv false (.t 1), none⟩,
  ⟨(some 23), none, .len false (.t 22), none⟩,
  ⟨(some 24), none, .bin .gtr .i64 (.t 23) (.c (.int .i64 64)), none⟩] (some [0, 1, 2, 24])) (
.ite (.t 24) (
  .seq (.reg false [
    ⟨(some 6), none, .nilS 3 1, none⟩,
    ⟨(some 7), none, .mv false (.c (.int .i64 5)), none⟩] (some [6, 7])) (
  .ret)) (
  .skip))) (
.seq (.reg false [
  ⟨(some 8), none, .mv false (.c (.int .i64 0)), none⟩,
  ⟨(some 9), none, .mv false (.c (.int .i64 0)), none⟩] (some [0, 1, 2, 8, 9])) (
.seq (.seq (.reg false [
  ⟨(some 25), none, .mv false (.t 1), none⟩,
  ⟨(some 26), none, .len false (.t 25), none⟩,
  ⟨(some 27), none, .mv false (.c (.int .i64 0)), none⟩] (some [0, 1, 2, 8, 9, 26, 27])) (
.blk 0 (
  .loop (
    .seq (.reg false [
      ⟨(some 28), none, .bin .lss .i64 (.t 27) (.t 26), none⟩] (some [0, 1, 2, 8, 9, 26, 27, 28])) (
    .seq (.ite (.t 28) (
      .skip) (
      .exit 0)) (
    .seq (.blk 1 (
      .seq (.reg false [
        ⟨(some 29), none, .mv false (.t 27), none⟩,
        ⟨(some 10), none, .mv false (.t 29), none⟩] (some [0, 1, 2, 8, 9, 10, 26, 27])) (
      .seq (.seq (.reg false [
        ⟨(some 30), none, .mv false (.t 1), none⟩,
        ⟨(some 31), none, .mv false (.t 10), none⟩,
        ⟨(some 32), none, .ixs 1 (.t 30) (.t 31), none⟩,
        ⟨(some 33), none, .ld none (.t 32), none⟩,
        ⟨(some 34), none, .bin .lss .i64 (.t 33) (.c (.int .i64 0)), none⟩,
        ⟨(some 35), none, .mv false (.t 34), none⟩,
        ⟨(some 36), some (35, false), .mv false (.t 1), none⟩,
        ⟨(some 37), some (35, false), .mv false (.t 10), none⟩,
        ⟨(some 38), some (35, false), .ixs 1 (.t 36) (.t 37), none⟩,
        ⟨(some 39), some (35, false), .ld none (.t 38), none⟩,
        ⟨(some 40), some (35, false), .bin .gtr .i64 (.t 39) (.c (.int .i64 1000000)), none⟩,
        ⟨(some 41), none, .pick (.t 35) (.c (.bool true)) (.t 40), none⟩,
        ⟨(some 42), none, .mv false (.t 41), none⟩,
        ⟨(some 43), some (42, false), .mv false (.t 2), none⟩,
        ⟨(some 44), some (42, false), .mv false (.t 10), none⟩,
        ⟨(some 45), some (42, false), .ixs 1 (.t 43) (.t 44), none⟩,
        ⟨(some 46), some (42, false), .ld none (.t 45), none⟩,
        ⟨(some 47), some (42, false), .bin .lss .i64 (.t 46) (.c (.int .i64 0)), none⟩,
        ⟨(some 48), none, .pick (.t 42) (.c (.bool true)) (.t 47), none⟩,
        ⟨(some 49), none, .mv false (.t 48), none⟩,
        ⟨(some 50), some (49, false), .mv false (.t 2), none⟩,
        ⟨(some 51), some (49, false), .mv false (.t 10), none⟩,
        ⟨(some 52), some (49, false), .ixs 1 (.t 50) (.t 51), none⟩,
        ⟨(some 53), some (49, false), .ld none (.t 52), none⟩,
        ⟨(some 54), some (49, false), .bin .gtr .i64 (.t 53) (.c (.int .i64 1000000)), none⟩,
        ⟨(some 55), none, .pick (.t 49) (.c (.bool true)) (.t 54), none⟩] (some [0, 1, 2, 8, 9, 10, 26, 27, 55])) (
      .ite (.t 55) (
        .seq (.reg false [
          ⟨(some 6), none, .nilS 3 1, none⟩,
          ⟨(some 7), none, .mv false (.c (.int .i64 1)), none⟩] (some [6, 7])) (
        .ret)) (
        .skip))) (
      .seq (.reg false [
        ⟨(some 56), none, .mv false (.t 8), none⟩,
        ⟨(some 57), none, .mv false (.t 1), none⟩,
        ⟨(some 58), none, .mv false (.t 10), none⟩,
        ⟨(some 59), none, .ixs 1 (.t 57) (.t 58), none⟩,
        ⟨(some 60), none, .ld none (.t 59), none⟩,
        ⟨(some 61), none, .bin .add .i64 (.t 56) (.t 60), none⟩,
        ⟨(some 8), none, .mv false (.t 61), none⟩] (some [0, 1, 2, 8, 9, 10, 26, 27])) (
      .reg false [
        ⟨(some 62), none, .mv false (.t 9), none⟩,
        ⟨(some 63), none, .mv false (.t 2), none⟩,
        ⟨(some 64), none, .mv false (.t 10), none⟩,
        ⟨(some 65), none, .ixs 1 (.t 63) (.t 64), none⟩,
        ⟨(some 66), none, .ld none (.t 65), none⟩,
        ⟨(some 67), none, .bin .add .i64 (.t 62) (.t 66), none⟩,
        ⟨(some 9), none, .mv false (.t 67), none⟩] (some [0, 1, 2, 8, 9, 26, 27])))))) (
    .reg false [
      ⟨(some 68), none, .bin .add .i64 (.t 27) (.c (.int .i64 1)), none⟩,
      ⟨(some 27), none, .mv false (.t 68), none⟩] (some [0, 1, 2, 8, 9, 26, 27])))))))) (
.seq (.seq (.reg false [
  ⟨(some 69), none, .mv false (.t 0), none⟩,
  ⟨(some 70), none, .bin .lss .i64 (.t 69) (.c (.int .i64 0)), none⟩,
  ⟨(some 71), none, .mv false (.t 70), none⟩,
  ⟨(some 72), some (71, false), .mv false (.t 0), none⟩,
  ⟨(some 73), some (71, false), .bin .gtr .i64 (.t 72) (.c (.int .i64 1000000)), none⟩,
  ⟨(some 74), none, .pick (.t 71) (.c (.bool true)) (.t 73), none⟩] (some [0, 1, 2, 8, 9, 74])) (
.ite (.t 74) (
  .seq (.reg false [
    ⟨(some 6), none, .nilS 3 1, none⟩,
    ⟨(some 7), none, .mv false (.c (.int .i64 1)), none⟩] (some [6, 7])) (
  .ret)) (
  .skip))) (
.seq (.seq (.reg false [
  ⟨(some 75), none, .mv false (.t 8), none⟩,
  ⟨(some 76), none, .mv false (.t 0), none⟩,
  ⟨(some 77), none, .bin .gtr .i64 (.t 75) (.t 76), none⟩] (some [0, 1, 2, 8, 9, 77])) (
.ite (.t 77) (
  .seq (.reg false [
    ⟨(some 6), none, .nilS 3 1, none⟩,
    ⟨(some 7), none, .mv false (.c (.int .i64 17)), none⟩] (some [6, 7])) (
  .ret)) (
  .skip))) (
.seq (.reg false [
  ⟨(some 78), none, .mv false (.t 0), none⟩,
  ⟨(some 79), none, .mv false (.t 8), none⟩,
  ⟨(some 80), none, .bin .sub .i64 (.t 78) (.t 79), none⟩,
  ⟨(some 11), none, .mv false (.t 80), none⟩] (some [1, 2, 9, 11])) (
.seq (.reg false [
  ⟨(some 81), none, .mv false (.t 1), none⟩,
  ⟨(some 82), none, .len false (.t 81), none⟩,
  ⟨(some 83), none, .mks 3 1 none [(.int .i64 0)] (.t 82) (.t 82), none⟩,
  ⟨(some 12), none, .mv false (.t 83), none⟩] (some [1, 2, 9, 11, 12])) (
.seq (.reg false [
  ⟨(some 13), none, .mv false (.c (.int .i64 0)), none⟩,
  ⟨(some 14), none, .mv false (.c (.int .i64 0)), none⟩] (some [1, 2, 9, 11, 12, 13, 14])) (
.seq (.seq (.reg false [
  ⟨(some 84), none, .mv false (.t 1), none⟩,
  ⟨(some 85), none, .len false (.t 84), none⟩,
  ⟨(some 86), none, .mv false (.c (.int .i64 0)), none⟩] (some [1, 2, 9, 11, 12, 13, 14, 85, 86])) (
.blk 2 (
  .loop (
    .seq (.reg false [
      ⟨(some 87), none, .bin .lss .i64 (.t 86) (.t 85), none⟩] (some [1, 2, 9, 11, 12, 13, 14, 85, 86, 87])) (
    .seq (.ite (.t 87) (
      .skip) (
      .exit 2)) (
    .seq (.blk 3 (
      .seq (.reg false [
        ⟨(some 88), none, .mv false (.t 86), none⟩,
        ⟨(some 15), none, .mv false (.t 88), none⟩] (some [1, 2, 9, 11, 12, 13, 14, 15, 85, 86])) (
      .seq (.reg false [
        ⟨(some 89), none, .mv false (.t 13), none⟩,
        ⟨(some 90), none, .mv false (.t 2), none⟩,
        ⟨(some 91), none, .mv false (.t 15), none⟩,
        ⟨(some 92), none, .ixs 1 (.t 90) (.t 91), none⟩,
        ⟨(some 93), none, .ld none (.t 92), none⟩,
        ⟨(some 94), none, .bin .add .i64 (.t 89) (.t 93), none⟩,
        ⟨(some 13), none, .mv false (.t 94), none⟩] (some [1, 2, 9, 11, 12, 13, 14, 15, 85, 86])) (
      .seq (.reg false [
        ⟨(some 16), none, .mv false (.c (.int .i64 0)), none⟩] (some [1, 2, 9, 11, 12, 13, 14, 15, 16, 85, 86])) (
      .seq (.seq (.reg false [
        ⟨(some 95), none, .mv false (.t 9), none⟩,
        ⟨(some 96), none, .bin .gtr .i64 (.t 95) (.c (.int .i64 0)), none⟩] (some [1, 2, 9, 11, 12, 13, 14, 15, 16, 85, 86, 96])) (
      .ite (.t 96) (
        .reg false [
          ⟨(some 97), none, .mv false (.t 11), none⟩,
          ⟨(some 98), none, .mv false (.t 13), none⟩,
          ⟨(some 99), none, .bin .mul .i64 (.t 97) (.t 98), none⟩,
          ⟨(some 100), none, .mv false (.t 9), none⟩,
          ⟨(some 101), none, .bin .quo .i64 (.t 99) (.t 100), none⟩,
          ⟨(some 16), none, .mv false (.t 101), none⟩] (some [1, 2, 9, 11, 12, 13, 14, 15, 16, 85, 86])) (
        .seq (.reg false [
          ⟨(some 102), none, .mv false (.t 15), none⟩,
          ⟨(some 103), none, .mv false (.t 1), none⟩,
          ⟨(some 104), none, .len false (.t 103), none⟩,
          ⟨(some 105), none, .bin .sub .i64 (.t 104) (.c (.int .i64 1)), none⟩,
          ⟨(some 106), none, .bin .eql .i64 (.t 102) (.t 105), none⟩] (some [1, 2, 9, 11, 12, 13, 14, 15, 16, 85, 86, 106])) (
        .ite (.t 106) (
          .reg false [
            ⟨(some 107), none, .mv false (.t 11), none⟩,
            ⟨(some 16), none, .mv false (.t 107), none⟩] (some [1, 2, 9, 11, 12, 13, 14, 15, 16, 85, 86])) (
          .skip))))) (
      .seq (.reg false [
        ⟨(some 108), none, .mv false (.t 12), none⟩,
        ⟨(some 109), none, .mv false (.t 15), none⟩,
        ⟨(some 110), none, .mv false (.t 1), none⟩,
        ⟨(some 111), none, .mv false (.t 15), none⟩,
        ⟨(some 112), none, .ixs 1 (.t 110) (.t 111), none⟩,
        ⟨(some 113), none, .ld none (.t 112), none⟩,
        ⟨(some 114), none, .mv false (.t 16), none⟩,
        ⟨(some 115), none, .bin .add .i64 (.t 113) (.t 114), none⟩,
        ⟨(some 116), none, .mv false (.t 14), none⟩,
        ⟨(some 117), none, .bin .sub .i64 (.t 115) (.t 116), none⟩,
        ⟨(some 118), none, .ixs 1 (.t 108) (.t 109), none⟩,
        ⟨none, none, .st none (.t 118) (.t 117), none⟩] (some [1, 2, 9, 11, 12, 13, 16, 85, 86])) (
      .reg false [
        ⟨(some 119), none, .mv false (.t 16), none⟩,
        ⟨(some 14), none, .mv false (.t 119), none⟩] (some [1, 2, 9, 11, 12, 13, 14, 85, 86])))))))) (
    .reg false [
      ⟨(some 120), none, .bin .add .i64 (.t 86) (.c (.int .i64 1)), none⟩,
      ⟨(some 86), none, .mv false (.t 120), none⟩] (some [1, 2, 9, 11, 12, 13, 14, 85, 86])))))))) (
.seq (.reg false [
  ⟨(some 121), none, .mv false (.t 12), none⟩,
  ⟨(some 6), none, .mv false (.t 121), none⟩,
  ⟨(some 7), none, .mv false (.c (.int .i64 0)), none⟩] (some [6, 7])) (
.ret))))))))))))
set_option maxRecDepth 1000000 in
theorem comp_layout_Split : (Try.f10.body.bind fun code => compC Try.prog Try.f10.ntmps code c_layout_Split) = some c_layout_Split.bare := by kernel_rfl
def r_layout_Split : List R := [.t 6, .t 7]
theorem spo_layout_Split {ds : List D} {d : D} (hn : Nat.ble ds.length 122 = true) (h : run TSpM gtab 0 c_layout_Split (retK r_layout_Split (· = d)) ⟨env0 0 ds, []⟩) : TSp 10 ds d := Sp_of mixed c_layout_Split r_layout_Split (fn := Try.f10) (by kernel_rfl) (by kernel_rfl) comp_layout_Split (by kernel_rfl) hn h
theorem spm_layout_Split {ds : List D} {d : D} {bx bx' : List Ent} (hn : Nat.ble ds.length 122 = true) (h : run TSpM gtab (sizeE bx) c_layout_Split (retG r_layout_Split (fun d1 bx1 => Rt (sizeE bx) bx1 d1 d bx')) ⟨env0 0 ds, bx⟩) : TSpM 10 ds bx d bx' := SpM_of mixed c_layout_Split r_layout_Split (fn := Try.f10) (by kernel_rfl) (by kernel_rfl) comp_layout_Split (by kernel_rfl) hn h
/-- glazier/glazierref52.Split -/
def c_ref52_Split : C := .seq (.reg false [
  ⟨(some 6), none, .nilS 3 1, none⟩,
  ⟨(some 7), none, .mv false (.c (.int .i64 0)), none⟩] (some [0, 1, 2])) (
.seq (.seq (.reg false [
  ⟨(some 17), none, .mv false (.t 1), none⟩,
  ⟨(some 18), none, .len false (.t 17), none⟩,
  ⟨(some 19), none, .mv false (.t 2), none⟩,
  ⟨(some 20), none, .len false (.t 19), none⟩,
  ⟨(some 21), none, .bin .neq .i64 (.t 18) (.t 20), none⟩] (some [0, 1, 2, 21])) (
.ite (.t 21) (
  .seq (.reg false [
    ⟨(some 6), none, .nilS 3 1, none⟩,
    ⟨(some 7), none, .mv false (.c (.int .i64 14)), none⟩] (some [6, 7])) (
  .ret)) (
  .skip))) (
.seq (.seq (.reg false [
  ⟨(some 22), none, .mv false (.t 1), none⟩,
  ⟨(some 23), none, .len false (.t 22), none⟩,
  ⟨(some 24), none, .bin .gtr .i64 (.t 23) (.c (.int .i64 64)), none⟩] (some [0, 1, 2, 24])) (
.ite (.t 24) (
  .seq (.reg false [
    ⟨(some 6), none, .nilS 3 1, none⟩,
    ⟨(some 7), none, .mv false (.c (.int .i64 5)), none⟩] (some [6, 7])) (
  .ret)) (
  .skip))) (
.seq (.reg false [
  ⟨(some 8), none, .mv false (.c (.int .i64 0)), none⟩,
  ⟨(some 9), none, .mv false (.c (.int .i64 0)), none⟩] (some [0, 1, 2, 8, 9])) (
.seq (.seq (.reg false [
  ⟨(some 10), none, .mv false (.c (.int .i64 0)), none⟩] (some [0, 1, 2, 8, 9, 10])) (
.blk 0 (
  .loop (
    .seq (.seq (.reg false [
      ⟨(some 25), none, .mv false (.t 10), none⟩,
      ⟨(some 26), none, .mv false (.t 1), none⟩,
      ⟨(some 27), none, .len false (.t 26), none⟩,
      ⟨(some 28), none, .bin .lss .i64 (.t 25) (.t 27), none⟩] (some [0, 1, 2, 8, 9, 10, 28])) (
    .ite (.t 28) (
      .skip) (
      .exit 0))) (
    .seq (.blk 1 (
      .seq (.seq (.reg false [
        ⟨(some 31), none, .mv false (.t 1), none⟩,
        ⟨(some 32), none, .mv false (.t 10), none⟩,
        ⟨(some 33), none, .ixs 1 (.t 31) (.t 32), none⟩,
        ⟨(some 34), none, .ld none (.t 33), none⟩,
        ⟨(some 35), none, .bin .lss .i64 (.t 34) (.c (.int .i64 0)), none⟩,
        ⟨(some 36), none, .mv false (.t 35), none⟩,
        ⟨(some 37), some (36, false), .mv false (.t 1), none⟩,
        ⟨(some 38), some (36, false), .mv false (.t 10), none⟩,
        ⟨(some 39), some (36, false), .ixs 1 (.t 37) (.t 38), none⟩,
        ⟨(some 40), some (36, false), .ld none (.t 39), none⟩,
        ⟨(some 41), some (36, false), .bin .gtr .i64 (.t 40) (.c (.int .i64 1000000)), none⟩,
        ⟨(some 42), none, .pick (.t 36) (.c (.bool true)) (.t 41), none⟩,
        ⟨(some 43), none, .mv false (.t 42), none⟩,
        ⟨(some 44), some (43, false), .mv false (.t 2), none⟩,
        ⟨(some 45), some (43, false), .mv false (.t 10), none⟩,
        ⟨(some 46), some (43, false), .ixs 1 (.t 44) (.t 45), none⟩,
        ⟨(some 47), some (43, false), .ld none (.t 46), none⟩,
        ⟨(some 48), some (43, false), .bin .lss .i64 (.t 47) (.c (.int .i64 0)), none⟩,
        ⟨(some 49), none, .pick (.t 43) (.c (.bool true)) (.t 48), none⟩,
        ⟨(some 50), none, .mv false (.t 49), none⟩,
        ⟨(some 51), some (50, false), .mv false (.t 2), none⟩,
        ⟨(some 52), some (50, false), .mv false (.t 10), none⟩,
        ⟨(some 53), some (50, false), .ixs 1 (.t 51) (.t 52), none⟩,
        ⟨(some 54), some (50, false), .ld none (.t 53), none⟩,
        ⟨(some 55), some (50, false), .bin .gtr .i64 (.t 54) (.c (.int .i64 1000000)), none⟩,
        ⟨(some 56), none, .pick (.t 50) (.c (.bool true)) (.t 55), none⟩] (some [0, 1, 2, 8, 9, 10, 56])) (
      .ite (.t 56) (
        .seq (.reg false [
          ⟨(some 6), none, .nilS 3 1, none⟩,
          ⟨(some 7), none, .mv false (.c (.int .i64 1)), none⟩] (some [6, 7])) (
        .ret)) (
        .skip))) (
      .seq (.reg false [
        ⟨(some 57), none, .mv false (.t 8), none⟩,
        ⟨(some 58), none, .mv false (.t 1), none⟩,
        ⟨(some 59), none, .mv false (.t 10), none⟩,
        ⟨(some 60), none, .ixs 1 (.t 58) (.t 59), none⟩,
        ⟨(some 61), none, .ld none (.t 60), none⟩,
        ⟨(some 62), none, .bin .add .i64 (.t 57) (.t 61), none⟩,
        ⟨(some 8), none, .mv false (.t 62), none⟩] (some [0, 1, 2, 8, 9, 10])) (
      .reg false [
        ⟨(some 63), none, .mv false (.t 9), none⟩,
        ⟨(some 64), none, .mv false (.t 2), none⟩,
        ⟨(some 65), none, .mv false (.t 10), none⟩,
        ⟨(some 66), none, .ixs 1 (.t 64) (.t 65), none⟩,
        ⟨(some 67), none, .ld none (.t 66), none⟩,
        ⟨(some 68), none, .bin .add .i64 (.t 63) (.t 67), none⟩,
        ⟨(some 9), none, .mv false (.t 68), none⟩] (some [0, 1, 2, 8, 9, 10]))))) (
    .reg false [
      ⟨(some 29), none, .mv false (.t 10), none⟩,
      ⟨(some 30), none, .bin .add .i64 (.t 29) (.c (.int .i64 1)), none⟩,
      ⟨(some 10), none, .mv false (.t 30), none⟩] (some [0, 1, 2, 8, 9, 10]))))))) (
.seq (.seq (.reg false [
  ⟨(some 69), none, .mv false (.t 0), none⟩,
  ⟨(some 70), none, .bin .lss .i64 (.t 69) (.c (.int .i64 0)), none⟩,
  ⟨(some 71), none, .mv false (.t 70), none⟩,
  ⟨(some 72), some (71, false), .mv false (.t 0), none⟩,
  ⟨(some 73), some (71, false), .bin .gtr .i64 (.t 72) (.c (.int .i64 1000000)), none⟩,
  ⟨(some 74), none, .pick (.t 71) (.c (.bool true)) (.t 73), none⟩] (some [0, 1, 2, 8, 9, 74])) (
.ite (.t 74) (
  .seq (.reg false [
    ⟨(some 6), none, .nilS 3 1, none⟩,
    ⟨(some 7), none, .mv false (.c (.int .i64 1)), none⟩] (some [6, 7])) (
  .ret)) (
  .skip))) (
.seq (.seq (.reg false [
  ⟨(some 75), none, .mv false (.t 8), none⟩,
  ⟨(some 76), none, .mv false (.t 0), none⟩,
  ⟨(some 77), none, .bin .gtr .i64 (.t 75) (.t 76), none⟩] (some [0, 1, 2, 8, 9, 77])) (
.ite (.t 77) (
  .seq (.reg false [
    ⟨(some 6), none, .nilS 3 1, none⟩,
    ⟨(some 7), none, .mv false (.c (.int .i64 17)), none⟩] (some [6, 7])) (
  .ret)) (
  .skip))) (
.seq (.reg false [
  ⟨(some 11), none, .nilS 3 1, none⟩] (some [0, 1, 2, 8, 9, 11])) (
.seq (.reg false [
  ⟨(some 78), none, .mv false (.t 0), none⟩,
  ⟨(some 79), none, .mv false (.t 8), none⟩,
  ⟨(some 80), none, .bin .sub .i64 (.t 78) (.t 79), none⟩,
  ⟨(some 12), none, .mv false (.t 80), none⟩,
  ⟨(some 13), none, .mv false (.c (.int .i64 0)), none⟩,
  ⟨(some 14), none, .mv false (.c (.int .i64 0)), none⟩] (some [1, 2, 9, 11, 12, 13, 14])) (
.seq (.seq (.reg false [
  ⟨(some 15), none, .mv false (.c (.int .i64 0)), none⟩] (some [1, 2, 9, 11, 12, 13, 14, 15])) (
.blk 2 (
  .loop (
    .seq (.seq (.reg false [
      ⟨(some 81), none, .mv false (.t 15), none⟩,
      ⟨(some 82), none, .mv false (.t 1), none⟩,
      ⟨(some 83), none, .len false (.t 82), none⟩,
      ⟨(some 84), none, .bin .lss .i64 (.t 81) (.t 83), none⟩] (some [1, 2, 9, 11, 12, 13, 14, 15, 84])) (
    .ite (.t 84) (
      .skip) (
      .exit 2))) (
    .seq (.blk 3 (
      .seq (.reg false [
        ⟨(some 87), none, .mv false (.t 13), none⟩,
        ⟨(some 88), none, .mv false (.t 2), none⟩,
        ⟨(some 89), none, .mv false (.t 15), none⟩,
        ⟨(some 90), none, .ixs 1 (.t 88) (.t 89), none⟩,
        ⟨(some 91), none, .ld none (.t 90), none⟩,
        ⟨(some 92), none, .bin .add .i64 (.t 87) (.t 91), none⟩,
        ⟨(some 13), none, .mv false (.t 92), none⟩] (some [1, 2, 9, 11, 12, 13, 14, 15])) (
      .seq (.reg false [
        ⟨(some 16), none, .mv false (.c (.int .i64 0)), none⟩] (some [1, 2, 9, 11, 12, 13, 14, 15, 16])) (
      .seq (.seq (.reg false [
        ⟨(some 93), none, .mv false (.t 9), none⟩,
        ⟨(some 94), none, .bin .gtr .i64 (.t 93) (.c (.int .i64 0)), none⟩] (some [1, 2, 9, 11, 12, 13, 14, 15, 16, 94])) (
      .ite (.t 94) (
        .reg false [
          ⟨(some 95), none, .mv false (.t 12), none⟩,
          ⟨(some 96), none, .mv false (.t 13), none⟩,
          ⟨(some 97), none, .bin .mul .i64 (.t 95) (.t 96), none⟩,
          ⟨(some 98), none, .mv false (.t 9), none⟩,
          ⟨(some 99), none, .bin .quo .i64 (.t 97) (.t 98), none⟩,
          ⟨(some 100), none, .mv false (.t 14), none⟩,
          ⟨(some 101), none, .bin .sub .i64 (.t 99) (.t 100), none⟩,
          ⟨(some 16), none, .mv false (.t 101), none⟩] (some [1, 2, 9, 11, 12, 13, 14, 15, 16])) (
        .seq (.reg false [
          ⟨(some 102), none, .mv false (.t 15), none⟩,
          ⟨(some 103), none, .mv false (.t 1), none⟩,
          ⟨(some 104), none, .len false (.t 103), none⟩,
          ⟨(some 105), none, .bin .sub .i64 (.t 104) (.c (.int .i64 1)), none⟩,
          ⟨(some 106), none, .bin .eql .i64 (.t 102) (.t 105), none⟩] (some [1, 2, 9, 11, 12, 13, 14, 15, 16, 106])) (
        .ite (.t 106) (
          .reg false [
            ⟨(some 107), none, .mv false (.t 12), none⟩,
            ⟨(some 16), none, .mv false (.t 107), none⟩] (some [1, 2, 9, 11, 12, 13, 14, 15, 16])) (
          .skip))))) (
      .seq (.reg false [
        ⟨(some 108), none, .mv false (.t 14), none⟩,
        ⟨(some 109), none, .mv false (.t 16), none⟩,
        ⟨(some 110), none, .bin .add .i64 (.t 108) (.t 109), none⟩,
        ⟨(some 14), none, .mv false (.t 110), none⟩] (some [1, 2, 9, 11, 12, 13, 14, 15, 16])) (
      .reg false [
        ⟨(some 111), none, .mv false (.t 11), none⟩,
        ⟨(some 112), none, .mv false (.t 1), none⟩,
        ⟨(some 113), none, .mv false (.t 15), none⟩,
        ⟨(some 114), none, .ixs 1 (.t 112) (.t 113), none⟩,
        ⟨(some 115), none, .ld none (.t 114), none⟩,
        ⟨(some 116), none, .mv false (.t 16), none⟩,
        ⟨(some 117), none, .bin .add .i64 (.t 115) (.t 116), none⟩,
        ⟨(some 118), none, .bsl none 3 1 none [(.t 117)], none⟩,
        ⟨(some 119), none, .app 3 1 8 (.t 111) (.t 118), none⟩,
        ⟨(some 11), none, .mv false (.t 119), none⟩] (some [1, 2, 9, 11, 12, 13, 14, 15]))))))) (
    .reg false [
      ⟨(some 85), none, .mv false (.t 15), none⟩,
      ⟨(some 86), none, .bin .add .i64 (.t 85) (.c (.int .i64 1)), none⟩,
      ⟨(some 15), none, .mv false (.t 86), none⟩] (some [1, 2, 9, 11, 12, 13, 14, 15]))))))) (
.seq (.reg false [
  ⟨(some 120), none, .mv false (.t 11), none⟩,
  ⟨(some 6), none, .mv false (.t 120), none⟩,
  ⟨(some 7), none, .mv false (.c (.int .i64 0)), none⟩] (some [6, 7])) (
.ret)))))))))))
set_option maxRecDepth 1000000 in
theorem comp_ref52_Split : (Try.f11.body.bind fun code => compC Try.prog Try.f11.ntmps code c_ref52_Split) = some c_ref52_Split.bare := by kernel_rfl
def r_ref52_Split : List R := [.t 6, .t 7]
theorem spo_ref52_Split {ds : List D} {d : D} (hn : Nat.ble ds.length 121 = true) (h : run TSpM gtab 0 c_ref52_Split (retK r_ref52_Split (· = d)) ⟨env0 0 ds, []⟩) : TSp 11 ds d := Sp_of mixed c_ref52_Split r_ref52_Split (fn := Try.f11) (by kernel_rfl) (by kernel_rfl) comp_ref52_Split (by kernel_rfl) hn h
theorem spm_ref52_Split {ds : List D} {d : D} {bx bx' : List Ent} (hn : Nat.ble ds.length 121 = true) (h : run TSpM gtab (sizeE bx) c_ref52_Split (retG r_ref52_Split (fun d1 bx1 => Rt (sizeE bx) bx1 d1 d bx')) ⟨env0 0 ds, bx⟩) : TSpM 11 ds bx d bx' := SpM_of mixed c_ref52_Split r_ref52_Split (fn := Try.f11) (by kernel_rfl) (by kernel_rfl) comp_ref52_Split (by kernel_rfl) hn h
/-- glazier/glazierref52.Same -/
def c_ref52_Same : C := .seq (.reg false [
  ⟨(some 4), none, .mv false (.c (.bool false)), none⟩] (some [0, 1])) (
.seq (.seq (.reg false [
  ⟨(some 6), none, .mv false (.t 0), none⟩,
  ⟨(some 7), none, .len false (.t 6), none⟩,
  ⟨(some 8), none, .mv false (.t 1), none⟩,
  ⟨(some 9), none, .len false (.t 8), none⟩,
  ⟨(some 10), none, .bin .neq .i64 (.t 7) (.t 9), none⟩] (some [0, 1, 10])) (
.ite (.t 10) (
  .seq (.reg false [
    ⟨(some 4), none, .mv false (.c (.bool false)), none⟩] (some [4])) (
  .ret)) (
  .skip))) (
.seq (.seq (.reg false [
  ⟨(some 5), none, .mv false (.c (.int .i64 0)), none⟩] (some [0, 1, 5])) (
.blk 0 (
  .loop (
    .seq (.seq (.reg false [
      ⟨(some 11), none, .mv false (.t 5), none⟩,
      ⟨(some 12), none, .mv false (.t 0), none⟩,
      ⟨(some 13), none, .len false (.t 12), none⟩,
      ⟨(some 14), none, .bin .lss .i64 (.t 11) (.t 13), none⟩] (some [0, 1, 5, 14])) (
    .ite (.t 14) (
      .skip) (
      .exit 0))) (
    .seq (.blk 1 (
      .seq (.reg true [
        ⟨(some 17), none, .mv false (.t 0), none⟩,
        ⟨(some 18), none, .mv false (.t 5), none⟩,
        ⟨(some 19), none, .ixs 1 (.t 17) (.t 18), none⟩,
        ⟨(some 20), none, .ld none (.t 19), none⟩,
        ⟨(some 21), none, .mv false (.t 1), none⟩,
        ⟨(some 22), none, .mv false (.t 5), none⟩,
        ⟨(some 23), none, .ixs 1 (.t 21) (.t 22), none⟩,
        ⟨(some 24), none, .ld none (.t 23), none⟩,
        ⟨(some 25), none, .bin .neq .i64 (.t 20) (.t 24), none⟩] (some [0, 1, 5, 25])) (
      .ite (.t 25) (
        .seq (.reg false [
          ⟨(some 4), none, .mv false (.c (.bool false)), none⟩] (some [4])) (
        .ret)) (
        .skip)))) (
    .reg false [
      ⟨(some 15), none, .mv false (.t 5), none⟩,
      ⟨(some 16), none, .bin .add .i64 (.t 15) (.c (.int .i64 1)), none⟩,
      ⟨(some 5), none, .mv false (.t 16), none⟩] (some [0, 1, 5]))))))) (
.seq (.reg false [
  ⟨(some 4), none, .mv false (.c (.bool true)), none⟩] (some [4])) (
.ret))))
set_option maxRecDepth 1000000 in
theorem comp_ref52_Same : (Try.f12.body.bind fun code => compC Try.prog Try.f12.ntmps code c_ref52_Same) = some c_ref52_Same.bare := by kernel_rfl
def r_ref52_Same : List R := [.t 4]
theorem spo_ref52_Same {ds : List D} {d : D} (hn : Nat.ble ds.length 26 = true) (h : run TSpM gtab 0 c_ref52_Same (retK r_ref52_Same (· = d)) ⟨env0 0 ds, []⟩) : TSp 12 ds d := Sp_of mixed c_ref52_Same r_ref52_Same (fn := Try.f12) (by kernel_rfl) (by kernel_rfl) comp_ref52_Same (by kernel_rfl) hn h
theorem spm_ref52_Same {ds : List D} {d : D} {bx bx' : List Ent} (hn : Nat.ble ds.length 26 = true) (h : run TSpM gtab (sizeE bx) c_ref52_Same (retG r_ref52_Same (fun d1 bx1 => Rt (sizeE bx) bx1 d1 d bx')) ⟨env0 0 ds, bx⟩) : TSpM 12 ds bx d bx' := SpM_of mixed c_ref52_Same r_ref52_Same (fn := Try.f12) (by kernel_rfl) (by kernel_rfl) comp_ref52_Same (by kernel_rfl) hn h
/-- glazier/glazierlaw52.few -/
def c_law52_few : C := .seq (.reg false [
  ⟨(some 2), none, .mv false (.c (.bool false)), none⟩] (some [0])) (
.seq (.seq (.reg false [
  ⟨(some 3), none, .mv false (.c (.int .i64 0)), none⟩] (some [0, 3])) (
.blk 0 (
  .loop (
    .seq (.seq (.reg false [
      ⟨(some 4), none, .mv false (.t 3), none⟩,
      ⟨(some 5), none, .mv false (.t 0), none⟩,
      ⟨(some 6), none, .len false (.t 5), none⟩,
      ⟨(some 7), none, .bin .lss .i64 (.t 4) (.t 6), none⟩,
      ⟨(some 8), none, .mv false (.t 7), none⟩,
      ⟨(some 9), some (8, true), .mv false (.t 3), none⟩,
      ⟨(some 10), some (8, true), .bin .lss .i64 (.t 9) (.c (.int .i64 70)), none⟩,
      ⟨(some 11), none, .pick (.t 8) (.t 10) (.c (.bool false)), none⟩] (some [0, 3, 11])) (
    .ite (.t 11) (
      .skip) (
      .exit 0))) (
    .seq (.blk 1 (
      .seq (.reg false [
        ⟨(some 14), none, .mv false (.t 0), none⟩,
        ⟨(some 15), none, .mv false (.t 3), none⟩,
        ⟨(some 16), none, .ixs 6 (.t 14) (.t 15), none⟩,
        ⟨(some 17), none, .fld 5 (.t 16), none⟩,
        ⟨(some 18), none, .ld none (.t 17), none⟩,
        ⟨(some 19), none, .len false (.t 18), none⟩,
        ⟨(some 20), none, .bin .gtr .i64 (.t 19) (.c (.int .i64 70)), none⟩] (some [0, 3, 20])) (
      .ite (.t 20) (
        .seq (.reg false [
          ⟨(some 2), none, .mv false (.c (.bool false)), none⟩] (some [2])) (
        .ret)) (
        .skip)))) (
    .reg false [
      ⟨(some 12), none, .mv false (.t 3), none⟩,
      ⟨(some 13), none, .bin .add .i64 (.t 12) (.c (.int .i64 1)), none⟩,
      ⟨(some 3), none, .mv false (.t 13), none⟩] (some [0, 3]))))))) (
.seq (.reg false [
  ⟨(some 21), none, .mv false (.t 0), none⟩,
  ⟨(some 22), none, .len false (.t 21), none⟩,
  ⟨(some 23), none, .bin .leq .i64 (.t 22) (.c (.int .i64 70)), none⟩,
  ⟨(some 2), none, .mv false (.t 23), none⟩] (some [2])) (
.ret)))
set_option maxRecDepth 1000000 in
theorem comp_law52_few : (Try.f13.body.bind fun code => compC Try.prog Try.f13.ntmps code c_law52_few) = some c_law52_few.bare := by kernel_rfl
def r_law52_few : List R := [.t 2]
theorem spo_law52_few {ds : List D} {d : D} (hn : Nat.ble ds.length 24 = true) (h : run TSpM gtab 0 c_law52_few (retK r_law52_few (· = d)) ⟨env0 0 ds, []⟩) : TSp 13 ds d := Sp_of mixed c_law52_few r_law52_few (fn := Try.f13) (by kernel_rfl) (by kernel_rfl) comp_law52_few (by kernel_rfl) hn h
theorem spm_law52_few {ds : List D} {d : D} {bx bx' : List Ent} (hn : Nat.ble ds.length 24 = true) (h : run TSpM gtab (sizeE bx) c_law52_few (retG r_law52_few (fun d1 bx1 => Rt (sizeE bx) bx1 d1 d bx')) ⟨env0 0 ds, bx⟩) : TSpM 13 ds bx d bx' := SpM_of mixed c_law52_few r_law52_few (fn := Try.f13) (by kernel_rfl) (by kernel_rfl) comp_law52_few (by kernel_rfl) hn h
/-- glazier/layout.Place -/
def c_layout_Place : C := .seq (.reg false [
  ⟨(some 2), none, .box true (.t 0), none⟩,
  ⟨(some 4), none, .nilS 33 4, none⟩,
  ⟨(some 5), none, .mv false (.c (.int .i64 0)), none⟩] (some [1, 2])) (
.seq (.seq (.reg false [
  ⟨(some 13), none, .mv false (.t 1), none⟩,
  ⟨(some 14), none, .call false 20 [(.t 13)], none⟩,
  ⟨(some 6), none, .mv false (.t 14), none⟩] (some [1, 2, 6])) (
.seq (.reg false [
  ⟨(some 15), none, .mv false (.t 6), none⟩,
  ⟨(some 16), none, .bin .neq .i64 (.t 15) (.c (.int .i64 0)), none⟩] (some [1, 2, 6, 16])) (
.ite (.t 16) (
  .seq (.reg false [
    ⟨(some 17), none, .mv false (.t 6), none⟩,
    ⟨(some 4), none, .nilS 33 4, none⟩,
    ⟨(some 5), none, .mv false (.t 17), none⟩] (some [4, 5])) (
  .ret)) (
  .skip)))) (
.seq (.seq (.reg false [
  ⟨(some 18), none, .ld (some 4) (.t 2), none⟩,
  ⟨(some 19), none, .call false 24 [(.t 18)], none⟩,
  ⟨(some 20), none, .bin .neq .i64 (.t 19) (.c (.int .i64 0)), none⟩,
  ⟨(some 21), none, .mv false (.t 20), none⟩,
  ⟨(some 22), some (21, false), .ld (some 4) (.t 2), none⟩,
  ⟨(some 23), some (21, false), .call false 25 [(.t 22)], none⟩,
  ⟨(some 24), none, .pick (.t 21) (.c (.bool true)) (.t 23), none⟩,
  ⟨(some 25), none, .mv false (.t 24), none⟩,
  ⟨(some 26), some (25, false), .fld 2 (.t 2), none⟩,
  ⟨(some 27), some (25, false), .ld none (.t 26), none⟩,
  ⟨(some 28), some (25, false), .bin .gtr .i64 (.t 27) (.c (.int .i64 1000000)), none⟩,
  ⟨(some 29), none, .pick (.t 25) (.c (.bool true)) (.t 28), none⟩,
  ⟨(some 30), none, .mv false (.t 29), none⟩,
  ⟨(some 31), some (30, false), .fld 3 (.t 2), none⟩,
  ⟨(some 32), some (30, false), .ld none (.t 31), none⟩,
  ⟨(some 33), some (30, false), .bin .gtr .i64 (.t 32) (.c (.int .i64 1000000)), none⟩,
  ⟨(some 34), none, .pick (.t 30) (.c (.bool true)) (.t 33), none⟩] (some [1, 2, 34])) (
.ite (.t 34) (
  .seq (.reg false [
    ⟨(some 4), none, .nilS 33 4, none⟩,
    ⟨(some 5), none, .mv false (.c (.int .i64 1)), none⟩] (some [4, 5])) (
  .ret)) (
  .skip))) (
.seq (.reg false [
  ⟨(some 35), none, .mv false (.t 1), none⟩,
  ⟨(some 36), none, .call false 26 [(.t 35)], none⟩,
  ⟨(some 7), none, .mv false (.t 36), none⟩] (some [1, 2, 7])) (
.seq (.seq (.reg true [
  ⟨(some 37), none, .fld 2 (.t 2), none⟩,
  ⟨(some 38), none, .ld none (.t 37), none⟩,
  ⟨(some 39), none, .mv false (.t 7), none⟩,
  ⟨(some 40), none, .ixs 4 (.t 39) (.c (.int .i64 0)), none⟩,
  ⟨(some 41), none, .fld 2 (.t 40), none⟩,
  ⟨(some 42), none, .ld none (.t 41), none⟩,
  ⟨(some 43), none, .bin .lss .i64 (.t 38) (.t 42), none⟩,
  ⟨(some 44), none, .mv false (.t 43), none⟩,
  ⟨(some 45), some (44, false), .fld 3 (.t 2), none⟩,
  ⟨(some 46), some (44, false), .ld none (.t 45), none⟩,
  ⟨(some 47), some (44, false), .mv false (.t 7), none⟩,
  ⟨(some 48), some (44, false), .ixs 4 (.t 47) (.c (.int .i64 0)), none⟩,
  ⟨(some 49), some (44, false), .fld 3 (.t 48), none⟩,
  ⟨(some 50), some (44, false), .ld none (.t 49), none⟩,
  ⟨(some 51), some (44, false), .bin .lss .i64 (.t 46) (.t 50), none⟩,
  ⟨(some 52), none, .pick (.t 44) (.c (.bool true)) (.t 51), none⟩] (some [1, 2, 7, 52])) (
.ite (.t 52) (
  .seq (.reg false [
    ⟨(some 4), none, .nilS 33 4, none⟩,
    ⟨(some 5), none, .mv false (.c (.int .i64 17)), none⟩] (some [4, 5])) (
  .ret)) (
  .skip))) (
.seq (.reg false [
  ⟨(some 53), none, .mv false (.t 1), none⟩,
  ⟨(some 54), none, .len false (.t 53), none⟩,
  ⟨(some 55), none, .mks 33 4 (some 4) [(.int .i64 0), (.int .i64 0), (.int .i64 0), (.int .i64 0)] (.t 54) (.t 54), none⟩,
  ⟨(some 8), none, .mv false (.t 55), none⟩] (some [1, 2, 7, 8])) (
.seq (.reg false [
  ⟨(some 56), none, .mv false (.t 8), none⟩,
  ⟨(some 57), none, .ld (some 4) (.t 2), none⟩,
  ⟨(some 58), none, .ixs 4 (.t 56) (.c (.int .i64 0)), none⟩,
  ⟨none, none, .st (some 4) (.t 58) (.t 57), none⟩] (some [1, 7, 8])) (
.seq (.seq (.reg false [
  ⟨(some 59), none, .mv false (.t 1), none⟩,
  ⟨(some 60), none, .len false (.t 59), none⟩,
  ⟨(some 61), none, .mv false (.c (.int .i64 0)), none⟩] (some [1, 7, 8, 59, 60, 61])) (
.blk 0 (
  .loop (
    .seq (.reg false [
      ⟨(some 62), none, .bin .lss .i64 (.t 61) (.t 60), none⟩] (some [1, 7, 8, 59, 60, 61, 62])) (
    .seq (.ite (.t 62) (
      .skip) (
      .exit 0)) (
    .seq (.blk 1 (
      .seq (.reg false [
        ⟨(some 63), none, .mv false (.t 61), none⟩,
        ⟨(some 64), none, .ixs 6 (.t 59) (.t 61), none⟩,
        ⟨(some 65), none, .ld (some 6) (.t 64), none⟩,
        ⟨(some 10), none, .alloc [(.bool false), (.int .i64 0), (.int .i64 0), (.int .i64 0), (.int .i64 0), (.ls 1 [])], none⟩,
        ⟨(some 9), none, .mv false (.t 63), none⟩,
        ⟨none, none, .st (some 6) (.t 10) (.t 65), none⟩] (some [1, 7, 8, 9, 10, 59, 60, 61])) (
      .reg true [
        ⟨(some 66), none, .ld (some 6) (.t 10), none⟩,
        ⟨(some 67), none, .mv false (.t 8), none⟩,
        ⟨(some 68), none, .mv false (.t 9), none⟩,
        ⟨(some 69), none, .ixs 4 (.t 67) (.t 68), none⟩,
        ⟨(some 70), none, .ld (some 4) (.t 69), none⟩,
        ⟨(some 71), none, .mv false (.t 8), none⟩,
        ⟨(some 72), none, .mv false (.t 7), none⟩,
        ⟨(some 73), none, .mv false (.t 1), none⟩,
        ⟨(some 74), none, .call true 27 [(.t 66), (.t 70), (.t 71), (.t 72), (.t 73)], none⟩] (some [1, 7, 8, 59, 60, 61])))) (
    .reg false [
      ⟨(some 75), none, .bin .add .i64 (.t 61) (.c (.int .i64 1)), none⟩,
      ⟨(some 61), none, .mv false (.t 75), none⟩] (some [1, 7, 8, 59, 60, 61])))))))) (
.seq (.seq (.reg false [
  ⟨(some 76), none, .mv false (.t 8), none⟩,
  ⟨(some 77), none, .len false (.t 76), none⟩,
  ⟨(some 78), none, .mv false (.c (.int .i64 0)), none⟩] (some [8, 76, 77, 78])) (
.blk 2 (
  .loop (
    .seq (.reg false [
      ⟨(some 79), none, .bin .lss .i64 (.t 78) (.t 77), none⟩] (some [8, 76, 77, 78, 79])) (
    .seq (.ite (.t 79) (
      .skip) (
      .exit 2)) (
    .seq (.blk 3 (
      .seq (.reg false [
        ⟨(some 80), none, .mv false (.t 78), none⟩,
        ⟨(some 81), none, .ixs 4 (.t 76) (.t 78), none⟩,
        ⟨(some 82), none, .ld (some 4) (.t 81), none⟩,
        ⟨(some 12), none, .alloc [(.int .i64 0), (.int .i64 0), (.int .i64 0), (.int .i64 0)], none⟩,
        ⟨(some 11), none, .mv false (.t 80), none⟩,
        ⟨none, none, .st (some 4) (.t 12) (.t 82), none⟩] (some [8, 11, 12, 76, 77, 78])) (
      .seq (.reg false [
        ⟨(some 83), none, .fld 2 (.t 12), none⟩,
        ⟨(some 84), none, .ld none (.t 83), none⟩,
        ⟨(some 85), none, .bin .lss .i64 (.t 84) (.c (.int .i64 1)), none⟩,
        ⟨(some 86), none, .mv false (.t 85), none⟩,
        ⟨(some 87), some (86, false), .fld 3 (.t 12), none⟩,
        ⟨(some 88), some (86, false), .ld none (.t 87), none⟩,
        ⟨(some 89), some (86, false), .bin .lss .i64 (.t 88) (.c (.int .i64 1)), none⟩,
        ⟨(some 90), none, .pick (.t 86) (.c (.bool true)) (.t 89), none⟩] (some [8, 11, 76, 77, 78, 90])) (
      .ite (.t 90) (
        .reg false [
          ⟨(some 91), none, .mv false (.t 8), none⟩,
          ⟨(some 92), none, .mv false (.t 11), none⟩,
          ⟨(some 93), none, .bld [(.int .i64 0), (.int .i64 0), (.int .i64 0), (.int .i64 0)] [], none⟩,
          ⟨(some 94), none, .ixs 4 (.t 91) (.t 92), none⟩,
          ⟨none, none, .st (some 4) (.t 94) (.t 93), none⟩] (some [8, 76, 77, 78])) (
        .skip))))) (
    .reg false [
      ⟨(some 95), none, .bin .add .i64 (.t 78) (.c (.int .i64 1)), none⟩,
      ⟨(some 78), none, .mv false (.t 95), none⟩] (some [8, 76, 77, 78])))))))) (
.seq (.reg false [
  ⟨(some 96), none, .mv false (.t 8), none⟩,
  ⟨(some 4), none, .mv false (.t 96), none⟩,
  ⟨(some 5), none, .mv false (.c (.int .i64 0)), none⟩] (some [4, 5])) (
.ret))))))))))
set_option maxRecDepth 1000000 in
theorem comp_layout_Place : (Try.f14.body.bind fun code => compC Try.prog Try.f14.ntmps code c_layout_Place) = some c_layout_Place.bare := by kernel_rfl
def r_layout_Place : List R := [.t 4, .t 5]
theorem spo_layout_Place {ds : List D} {d : D} (hn : Nat.ble ds.length 97 = true) (h : run TSpM gtab 0 c_layout_Place (retK r_layout_Place (· = d)) ⟨env0 0 ds, []⟩) : TSp 14 ds d := Sp_of mixed c_layout_Place r_layout_Place (fn := Try.f14) (by kernel_rfl) (by kernel_rfl) comp_layout_Place (by kernel_rfl) hn h
theorem spm_layout_Place {ds : List D} {d : D} {bx bx' : List Ent} (hn : Nat.ble ds.length 97 = true) (h : run TSpM gtab (sizeE bx) c_layout_Place (retG r_layout_Place (fun d1 bx1 => Rt (sizeE bx) bx1 d1 d bx')) ⟨env0 0 ds, bx⟩) : TSpM 14 ds bx d bx' := SpM_of mixed c_layout_Place r_layout_Place (fn := Try.f14) (by kernel_rfl) (by kernel_rfl) comp_layout_Place (by kernel_rfl) hn h
/-- glazier/glazierref12.Holds -/
def c_ref12_Holds : C := .seq (.reg false [
  ⟨(some 2), none, .box true (.t 0), none⟩,
  ⟨(some 3), none, .box true (.t 1), none⟩,
  ⟨(some 4), none, .mv false (.c (.bool false)), none⟩] (some [2, 3])) (
.seq (.reg false [
  ⟨(some 5), none, .ld (some 4) (.t 3), none⟩,
  ⟨(some 6), none, .call false 28 [(.t 5)], none⟩,
  ⟨none, none, .st (some 4) (.t 3) (.t 6), none⟩] (some [2, 3])) (
.seq (.reg true [
  ⟨(some 7), none, .fld 2 (.t 3), none⟩,
  ⟨(some 8), none, .ld none (.t 7), none⟩,
  ⟨(some 9), none, .bin .eql .i64 (.t 8) (.c (.int .i64 0)), none⟩,
  ⟨(some 10), none, .mv false (.t 9), none⟩,
  ⟨(some 11), some (10, false), .ld (some 4) (.t 2), none⟩,
  ⟨(some 12), some (10, false), .ld (some 4) (.t 3), none⟩,
  ⟨(some 13), some (10, false), .call false 16 [(.t 11), (.t 12)], none⟩,
  ⟨(some 14), some (10, false), .ld (some 4) (.t 3), none⟩,
  ⟨(some 15), some (10, false), .eqS false [.i .i64, .i .i64, .i .i64, .i .i64] (.t 13) (.t 14), none⟩,
  ⟨(some 16), none, .pick (.t 10) (.c (.bool true)) (.t 15), none⟩,
  ⟨(some 4), none, .mv false (.t 16), none⟩] (some [4])) (
.ret)))
set_option maxRecDepth 1000000 in
theorem comp_ref12_Holds : (Try.f15.body.bind fun code => compC Try.prog Try.f15.ntmps code c_ref12_Holds) = some c_ref12_Holds.bare := by kernel_rfl
def r_ref12_Holds : List R := [.t 4]
theorem spo_ref12_Holds {ds : List D} {d : D} (hn : Nat.ble ds.length 17 = true) (h : run TSpM gtab 0 c_ref12_Holds (retK r_ref12_Holds (· = d)) ⟨env0 0 ds, []⟩) : TSp 15 ds d := Sp_of mixed c_ref12_Holds r_ref12_Holds (fn := Try.f15) (by kernel_rfl) (by kernel_rfl) comp_ref12_Holds (by kernel_rfl) hn h
theorem spm_ref12_Holds {ds : List D} {d : D} {bx bx' : List Ent} (hn : Nat.ble ds.length 17 = true) (h : run TSpM gtab (sizeE bx) c_ref12_Holds (retG r_ref12_Holds (fun d1 bx1 => Rt (sizeE bx) bx1 d1 d bx')) ⟨env0 0 ds, bx⟩) : TSpM 15 ds bx d bx' := SpM_of mixed c_ref12_Holds r_ref12_Holds (fn := Try.f15) (by kernel_rfl) (by kernel_rfl) comp_ref12_Holds (by kernel_rfl) hn h
/-- glazier/glazierref12.Cross -/
def c_ref12_Cross : C := .seq (.reg false [
  ⟨(some 2), none, .box true (.t 0), none⟩,
  ⟨(some 3), none, .box true (.t 1), none⟩,
  ⟨(some 4), none, .alloc [(.int .i64 0), (.int .i64 0), (.int .i64 0), (.int .i64 0)], none⟩] (some [2, 3, 4])) (
.seq (.reg true [
  ⟨(some 5), none, .ld (some 4) (.t 2), none⟩,
  ⟨(some 6), none, .call false 28 [(.t 5)], none⟩,
  ⟨(some 7), none, .ld (some 4) (.t 3), none⟩,
  ⟨(some 8), none, .call false 28 [(.t 7)], none⟩,
  ⟨none, none, .st (some 4) (.t 2) (.t 6), none⟩,
  ⟨none, none, .st (some 4) (.t 3) (.t 8), none⟩] (some [2, 3, 4])) (
.seq (.reg true [
  ⟨(some 9), none, .fld 0 (.t 2), none⟩,
  ⟨(some 10), none, .ld none (.t 9), none⟩,
  ⟨(some 11), none, .fld 0 (.t 3), none⟩,
  ⟨(some 12), none, .ld none (.t 11), none⟩,
  ⟨(some 13), none, .call false 30 [(.t 10), (.t 12)], none⟩,
  ⟨(some 14), none, .fld 1 (.t 2), none⟩,
  ⟨(some 15), none, .ld none (.t 14), none⟩,
  ⟨(some 16), none, .fld 1 (.t 3), none⟩,
  ⟨(some 17), none, .ld none (.t 16), none⟩,
  ⟨(some 18), none, .call false 30 [(.t 15), (.t 17)], none⟩,
  ⟨(some 19), none, .fld 0 (.t 2), none⟩,
  ⟨(some 20), none, .ld none (.t 19), none⟩,
  ⟨(some 21), none, .fld 2 (.t 2), none⟩,
  ⟨(some 22), none, .ld none (.t 21), none⟩,
  ⟨(some 23), none, .bin .add .i64 (.t 20) (.t 22), none⟩,
  ⟨(some 24), none, .fld 0 (.t 3), none⟩,
  ⟨(some 25), none, .ld none (.t 24), none⟩,
  ⟨(some 26), none, .fld 2 (.t 3), none⟩,
  ⟨(some 27), none, .ld none (.t 26), none⟩,
  ⟨(some 28), none, .bin .add .i64 (.t 25) (.t 27), none⟩,
  ⟨(some 29), none, .call false 31 [(.t 23), (.t 28)], none⟩,
  ⟨(some 30), none, .fld 1 (.t 2), none⟩,
  ⟨(some 31), none, .ld none (.t 30), none⟩,
  ⟨(some 32), none, .fld 3 (.t 2), none⟩,
  ⟨(some 33), none, .ld none (.t 32), none⟩,
  ⟨(some 34), none, .bin .add .i64 (.t 31) (.t 33), none⟩,
  ⟨(some 35), none, .fld 1 (.t 3), none⟩,
  ⟨(some 36), none, .ld none (.t 35), none⟩,
  ⟨(some 37), none, .fld 3 (.t 3), none⟩,
  ⟨(some 38), none, .ld none (.t 37), none⟩,
  ⟨(some 39), none, .bin .add .i64 (.t 36) (.t 38), none⟩,
  ⟨(some 40), none, .call false 31 [(.t 34), (.t 39)], none⟩,
  ⟨(some 41), none, .call false 29 [(.t 13), (.t 18), (.t 29), (.t 40)], none⟩,
  ⟨none, none, .st (some 4) (.t 4) (.t 41), none⟩] (some [4])) (
.ret)))
set_option maxRecDepth 1000000 in
theorem comp_ref12_Cross : (Try.f16.body.bind fun code => compC Try.prog Try.f16.ntmps code c_ref12_Cross) = some c_ref12_Cross.bare := by kernel_rfl
def r_ref12_Cross : List R := [.cell 4 (some 4)]
theorem spo_ref12_Cross {ds : List D} {d : D} (hn : Nat.ble ds.length 42 = true) (h : run TSpM gtab 0 c_ref12_Cross (retK r_ref12_Cross (· = d)) ⟨env0 0 ds, []⟩) : TSp 16 ds d := Sp_of mixed c_ref12_Cross r_ref12_Cross (fn := Try.f16) (by kernel_rfl) (by kernel_rfl) comp_ref12_Cross (by kernel_rfl) hn h
theorem spm_ref12_Cross {ds : List D} {d : D} {bx bx' : List Ent} (hn : Nat.ble ds.length 42 = true) (h : run TSpM gtab (sizeE bx) c_ref12_Cross (retG r_ref12_Cross (fun d1 bx1 => Rt (sizeE bx) bx1 d1 d bx')) ⟨env0 0 ds, bx⟩) : TSpM 16 ds bx d bx' := SpM_of mixed c_ref12_Cross r_ref12_Cross (fn := Try.f16) (by kernel_rfl) (by kernel_rfl) comp_ref12_Cross (by kernel_rfl) hn h
/-- glazier/glazierref12.Area -/
def c_ref12_Area : C := .seq (.reg false [
  ⟨(some 1), none, .box true (.t 0), none⟩,
  ⟨(some 2), none, .mv false (.c (.int .i64 0)), none⟩] (some [1])) (
.seq (.reg false [
  ⟨(some 3), none, .ld (some 4) (.t 1), none⟩,
  ⟨(some 4), none, .call false 28 [(.t 3)], none⟩,
  ⟨none, none, .st (some 4) (.t 1) (.t 4), none⟩] (some [1])) (
.seq (.reg false [
  ⟨(some 5), none, .fld 2 (.t 1), none⟩,
  ⟨(some 6), none, .ld none (.t 5), none⟩,
  ⟨(some 7), none, .fld 3 (.t 1), none⟩,
  ⟨(some 8), none, .ld none (.t 7), none⟩,
  ⟨(some 9), none, .bin .mul .i64 (.t 6) (.t 8), none⟩,
  ⟨(some 2), none, .mv false (.t 9), none⟩] (some [2])) (
.ret)))
set_option maxRecDepth 1000000 in
theorem comp_ref12_Area : (Try.f17.body.bind fun code => compC Try.prog Try.f17.ntmps code c_ref12_Area) = some c_ref12_Area.bare := by kernel_rfl
def r_ref12_Area : List R := [.t 2]
theorem spo_ref12_Area {ds : List D} {d : D} (hn : Nat.ble ds.length 10 = true) (h : run TSpM gtab 0 c_ref12_Area (retK r_ref12_Area (· = d)) ⟨env0 0 ds, []⟩) : TSp 17 ds d := Sp_of mixed c_ref12_Area r_ref12_Area (fn := Try.f17) (by kernel_rfl) (by kernel_rfl) comp_ref12_Area (by kernel_rfl) hn h
theorem spm_ref12_Area {ds : List D} {d : D} {bx bx' : List Ent} (hn : Nat.ble ds.length 10 = true) (h : run TSpM gtab (sizeE bx) c_ref12_Area (retG r_ref12_Area (fun d1 bx1 => Rt (sizeE bx) bx1 d1 d bx')) ⟨env0 0 ds, bx⟩) : TSpM 17 ds bx d bx' := SpM_of mixed c_ref12_Area r_ref12_Area (fn := Try.f17) (by kernel_rfl) (by kernel_rfl) comp_ref12_Area (by kernel_rfl) hn h
/-- glazier/layout.At -/
def c_layout_At : C := .seq (.reg false [
  ⟨(some 6), none, .mv false (.c (.int .i64 0)), none⟩] (some [0, 1, 2])) (
.seq (.seq (.reg false [
  ⟨(some 8), none, .mv false (.t 2), none⟩,
  ⟨(some 9), none, .len false (.t 8), none⟩,
  ⟨(some 10), none, .bin .sub .i64 (.t 9) (.c (.int .i64 1)), none⟩,
  ⟨(some 7), none, .mv false (.t 10), none⟩] (some [0, 1, 2, 7])) (
.blk 0 (
  .loop (
    .seq (.seq (.reg false [
      ⟨(some 11), none, .mv false (.t 7), none⟩,
      ⟨(some 12), none, .bin .geq .i64 (.t 11) (.c (.int .i64 0)), none⟩] (some [0, 1, 2, 7, 12])) (
    .ite (.t 12) (
      .skip) (
      .exit 0))) (
    .seq (.blk 1 (
      .seq (.reg false [
        ⟨(some 15), none, .mv false (.t 2), none⟩,
        ⟨(some 16), none, .mv false (.t 7), none⟩,
        ⟨(some 17), none, .ixs 4 (.t 15) (.t 16), none⟩,
        ⟨(some 18), none, .ld (some 4) (.t 17), none⟩,
        ⟨(some 19), none, .mv false (.t 0), none⟩,
        ⟨(some 20), none, .mv false (.t 1), none⟩,
        ⟨(some 21), none, .call false 32 [(.t 18), (.t 19), (.t 20)], none⟩] (some [0, 1, 2, 7, 21])) (
      .ite (.t 21) (
        .seq (.reg false [
          ⟨(some 22), none, .mv false (.t 7), none⟩,
          ⟨(some 6), none, .mv false (.t 22), none⟩] (some [6])) (
        .ret)) (
        .skip)))) (
    .reg false [
      ⟨(some 13), none, .mv false (.t 7), none⟩,
      ⟨(some 14), none, .bin .sub .i64 (.t 13) (.c (.int .i64 1)), none⟩,
      ⟨(some 7), none, .mv false (.t 14), none⟩] (some [0, 1, 2, 7]))))))) (
.seq (.reg false [
  ⟨(some 6), none, .mv false (.c (.int .i64 (-1))), none⟩] (some [6])) (
.ret)))
set_option maxRecDepth 1000000 in
theorem comp_layout_At : (Try.f18.body.bind fun code => compC Try.prog Try.f18.ntmps code c_layout_At) = some c_layout_At.bare := by kernel_rfl
def r_layout_At : List R := [.t 6]
theorem spo_layout_At {ds : List D} {d : D} (hn : Nat.ble ds.length 23 = true) (h : run TSpM gtab 0 c_layout_At (retK r_layout_At (· = d)) ⟨env0 0 ds, []⟩) : TSp 18 ds d := Sp_of mixed c_layout_At r_layout_At (fn := Try.f18) (by kernel_rfl) (by kernel_rfl) comp_layout_At (by kernel_rfl) hn h
theorem spm_layout_At {ds : List D} {d : D} {bx bx' : List Ent} (hn : Nat.ble ds.length 23 = true) (h : run TSpM gtab (sizeE bx) c_layout_At (retG r_layout_At (fun d1 bx1 => Rt (sizeE bx) bx1 d1 d bx')) ⟨env0 0 ds, bx⟩) : TSpM 18 ds bx d bx' := SpM_of mixed c_layout_At r_layout_At (fn := Try.f18) (by kernel_rfl) (by kernel_rfl) comp_layout_At (by kernel_rfl) hn h
/-- glazier/glazierref12.Shift -/
def c_ref12_Shift : C := .seq (.reg false [
  ⟨(some 3), none, .box true (.t 0), none⟩,
  ⟨(some 6), none, .alloc [(.int .i64 0), (.int .i64 0), (.int .i64 0), (.int .i64 0)], none⟩] (some [1, 2, 3, 6])) (
.seq (.reg false [
  ⟨(some 7), none, .ld (some 4) (.t 3), none⟩,
  ⟨(some 8), none, .call false 28 [(.t 7)], none⟩,
  ⟨none, none, .st (some 4) (.t 3) (.t 8), none⟩] (some [1, 2, 3, 6])) (
.seq (.seq (.reg false [
  ⟨(some 9), none, .fld 2 (.t 3), none⟩,
  ⟨(some 10), none, .ld none (.t 9), none⟩,
  ⟨(some 11), none, .bin .eql .i64 (.t 10) (.c (.int .i64 0)), none⟩,
  ⟨(some 12), none, .mv false (.t 11), none⟩,
  ⟨(some 13), some (12, false), .mv false (.t 1), none⟩,
  ⟨(some 14), some (12, false), .bin .gtr .i64 (.t 13) (.c (.int .i64 4194304)), none⟩,
  ⟨(some 15), none, .pick (.t 12) (.c (.bool true)) (.t 14), none⟩,
  ⟨(some 16), none, .mv false (.t 15), none⟩,
  ⟨(some 17), some (16, false), .mv false (.t 1), none⟩,
  ⟨(some 18), some (16, false), .bin .lss .i64 (.t 17) (.c (.int .i64 (-4194304))), none⟩,
  ⟨(some 19), none, .pick (.t 16) (.c (.bool true)) (.t 18), none⟩,
  ⟨(some 20), none, .mv false (.t 19), none⟩,
  ⟨(some 21), some (20, false), .mv false (.t 2), none⟩,
  ⟨(some 22), some (20, false), .bin .gtr .i64 (.t 21) (.c (.int .i64 4194304)), none⟩,
  ⟨(some 23), none, .pick (.t 20) (.c (.bool true)) (.t 22), none⟩,
  ⟨(some 24), none, .mv false (.t 23), none⟩,
  ⟨(some 25), some (24, false), .mv false (.t 2), none⟩,
  ⟨(some 26), some (24, false), .bin .lss .i64 (.t 25) (.c (.int .i64 (-4194304))), none⟩,
  ⟨(some 27), none, .pick (.t 24) (.c (.bool true)) (.t 26), none⟩] (some [1, 2, 3, 6, 27])) (
.ite (.t 27) (
  .seq (.reg false [
    ⟨(some 28), none, .bld [(.int .i64 0), (.int .i64 0), (.int .i64 0), (.int .i64 0)] [], none⟩,
    ⟨none, none, .st (some 4) (.t 6) (.t 28), none⟩] (some [6])) (
  .ret)) (
  .skip))) (
.seq (.reg false [
  ⟨(some 29), none, .fld 0 (.t 3), none⟩,
  ⟨(some 30), none, .ld none (.t 29), none⟩,
  ⟨(some 31), none, .mv false (.t 1), none⟩,
  ⟨(some 32), none, .bin .add .i64 (.t 30) (.t 31), none⟩,
  ⟨(some 33), none, .fld 1 (.t 3), none⟩,
  ⟨(some 34), none, .ld none (.t 33), none⟩,
  ⟨(some 35), none, .mv false (.t 2), none⟩,
  ⟨(some 36), none, .bin .add .i64 (.t 34) (.t 35), none⟩,
  ⟨(some 37), none, .fld 2 (.t 3), none⟩,
  ⟨(some 38), none, .ld none (.t 37), none⟩,
  ⟨(some 39), none, .fld 3 (.t 3), none⟩,
  ⟨(some 40), none, .ld none (.t 39), none⟩,
  ⟨(some 41), none, .bld [(.int .i64 0), (.int .i64 0), (.int .i64 0), (.int .i64 0)] [(0, none, (.t 32)), (1, none, (.t 36)), (2, none, (.t 38)), (3, none, (.t 40))], none⟩,
  ⟨(some 42), none, .call false 28 [(.t 41)], none⟩,
  ⟨none, none, .st (some 4) (.t 6) (.t 42), none⟩] (some [6])) (
.ret))))
set_option maxRecDepth 1000000 in
theorem comp_ref12_Shift : (Try.f19.body.bind fun code => compC Try.prog Try.f19.ntmps code c_ref12_Shift) = some c_ref12_Shift.bare := by kernel_rfl
def r_ref12_Shift : List R := [.cell 6 (some 4)]
theorem spo_ref12_Shift {ds : List D} {d : D} (hn : Nat.ble ds.length 43 = true) (h : run TSpM gtab 0 c_ref12_Shift (retK r_ref12_Shift (· = d)) ⟨env0 0 ds, []⟩) : TSp 19 ds d := Sp_of mixed c_ref12_Shift r_ref12_Shift (fn := Try.f19) (by kernel_rfl) (by kernel_rfl) comp_ref12_Shift (by kernel_rfl) hn h
theorem spm_ref12_Shift {ds : List D} {d : D} {bx bx' : List Ent} (hn : Nat.ble ds.length 43 = true) (h : run TSpM gtab (sizeE bx) c_ref12_Shift (retG r_ref12_Shift (fun d1 bx1 => Rt (sizeE bx) bx1 d1 d bx')) ⟨env0 0 ds, bx⟩) : TSpM 19 ds bx d bx' := SpM_of mixed c_ref12_Shift r_ref12_Shift (fn := Try.f19) (by kernel_rfl) (by kernel_rfl) comp_ref12_Shift (by kernel_rfl) hn h
/-- glazier/layout.Check -/
def c_layout_Check : C := .seq (.reg false [
  ⟨(some 2), none, .mv false (.c (.int .i64 0)), none⟩] (some [0])) (
.seq (.seq (.reg false [
  ⟨(some 11), none, .mv false (.t 0), none⟩,
  ⟨(some 12), none, .len false (.t 11), none⟩,
  ⟨(some 13), none, .bin .eql .i64 (.t 12) (.c (.int .i64 0)), none⟩] (some [0, 13])) (
.ite (.t 13) (
  .seq (.reg false [
    ⟨(some 2), none, .mv false (.c (.int .i64 13)), none⟩] (some [2])) (
  .ret)) (
  .skip))) (
.seq (.seq (.reg false [
  ⟨(some 14), none, .mv false (.t 0), none⟩,
  ⟨(some 15), none, .len false (.t 14), none⟩,
  ⟨(some 16), none, .bin .gtr .i64 (.t 15) (.c (.int .i64 64)), none⟩] (some [0, 16])) (
.ite (.t 16) (
  .seq (.reg false [
    ⟨(some 2), none, .mv false (.c (.int .i64 5)), none⟩] (some [2])) (
  .ret)) (
  .skip))) (
.seq (.reg false [
  ⟨(some 3), none, .alloc [(.bool false), (.bool false), (.bool false), (.bool false), (.bool false), (.bool false), (.bool false), (.bool false), (.bool false), (.bool false), (.bool false), (.bool false), (.bool false), (.bool false), (.bool false), (.bool false), (.bool false), (.bool false), (.bool false), (.bool false), (.bool false), (.bool false), (.bool false), (.bool false), (.bool false), (.bool false), (.bool false), (.bool false), (.bool false), (.bool false), (.bool false), (.bool false), (.bool false), (.bool false), (.bool false), (.bool false), (.bool false), (.bool false), (.bool false), (.bool false), (.bool false), (.bool false), (.bool false), (.bool false), (.bool false), (.bool false), (.bool false), (.bool false), (.bool false), (.bool false), (.bool false), (.bool false), (.bool false), (.bool false), (.bool false), (.bool false), (.bool false), (.bool false), (.bool false), (.bool false), (.bool false), (.bool false), (.bool false), (.bool false)], none⟩] (some [0, 3])) (
.seq (.seq (.reg false [
  ⟨(some 17), none, .mv false (.t 0), none⟩,
  ⟨(some 18), none, .len false (.t 17), none⟩,
  ⟨(some 19), none, .mv false (.c (.int .i64 0)), none⟩] (some [0, 3, 17, 18, 19])) (
.blk 0 (
  .loop (
    .seq (.reg false [
      ⟨(some 20), none, .bin .lss .i64 (.t 19) (.t 18), none⟩] (some [0, 3, 17, 18, 19, 20])) (
    .seq (.ite (.t 20) (
      .skip) (
      .exit 0)) (
    .seq (.blk 1 (
      .seq (.reg false [
        ⟨(some 21), none, .mv false (.t 19), none⟩,
        ⟨(some 22), none, .ixs 6 (.t 17) (.t 19), none⟩,
        ⟨(some 23), none, .ld (some 6) (.t 22), none⟩,
        ⟨(some 5), none, .alloc [(.bool false), (.int .i64 0), (.int .i64 0), (.int .i64 0), (.int .i64 0), (.ls 1 [])], none⟩,
        ⟨(some 4), none, .mv false (.t 21), none⟩,
        ⟨none, none, .st (some 6) (.t 5) (.t 23), none⟩] (some [0, 3, 4, 5, 17, 18, 19])) (
      .seq (.seq (.reg false [
        ⟨(some 24), none, .fld 1 (.t 5), none⟩,
        ⟨(some 25), none, .ld none (.t 24), none⟩,
        ⟨(some 26), none, .fld 2 (.t 5), none⟩,
        ⟨(some 27), none, .ld none (.t 26), none⟩,
        ⟨(some 28), none, .fld 3 (.t 5), none⟩,
        ⟨(some 29), none, .ld none (.t 28), none⟩,
        ⟨(some 30), none, .fld 4 (.t 5), none⟩,
        ⟨(some 31), none, .ld none (.t 30), none⟩,
        ⟨(some 32), none, .bld [(.int .i64 0), (.int .i64 0), (.int .i64 0), (.int .i64 0)] [(0, none, (.t 25)), (1, none, (.t 27)), (2, none, (.t 29)), (3, none, (.t 31))], none⟩,
        ⟨(some 33), none, .mv false (.c (.int .i64 0)), none⟩] (some [0, 3, 4, 5, 17, 18, 19, 32, 33])) (
      .blk 2 (
        .loop (
          .seq (.reg false [
            ⟨(some 34), none, .bin .lss .i64 (.t 33) (.c (.int .i64 4)), none⟩] (some [0, 3, 4, 5, 17, 18, 19, 32, 33, 34])) (
          .seq (.ite (.t 34) (
            .skip) (
            .exit 2)) (
          .seq (.blk 3 (
            .seq (.reg false [
              ⟨(some 35), none, .ixv 4 1 none (.t 32) (.t 33), none⟩,
              ⟨(some 7), none, .mv false (.t 35), none⟩] (some [0, 3, 4, 5, 7, 17, 18, 19, 32, 33])) (
            .seq (.reg false [
              ⟨(some 36), none, .mv false (.t 7), none⟩,
              ⟨(some 37), none, .bin .lss .i64 (.t 36) (.c (.int .i64 0)), none⟩,
              ⟨(some 38), none, .mv false (.t 37), none⟩,
              ⟨(some 39), some (38, false), .mv false (.t 7), none⟩,
              ⟨(some 40), some (38, false), .bin .gtr .i64 (.t 39) (.c (.int .i64 1000)), none⟩,
              ⟨(some 41), none, .pick (.t 38) (.c (.bool true)) (.t 40), none⟩] (some [0, 3, 4, 5, 17, 18, 19, 32, 33, 41])) (
            .ite (.t 41) (
              .seq (.reg false [
                ⟨(some 2), none, .mv false (.c (.int .i64 1)), none⟩] (some [2])) (
              .ret)) (
              .skip))))) (
          .reg false [
            ⟨(some 42), none, .bin .add .i64 (.t 33) (.c (.int .i64 1)), none⟩,
            ⟨(some 33), none, .mv false (.t 42), none⟩] (some [0, 3, 4, 5, 17, 18, 19, 32, 33])))))))) (
      .seq (.reg false [
        ⟨(some 43), none, .fld 5 (.t 5), none⟩,
        ⟨(some 44), none, .ld none (.t 43), none⟩,
        ⟨(some 45), none, .len false (.t 44), none⟩,
        ⟨(some 46), none, .mv false (.c (.int .i64 0)), none⟩] (some [0, 3, 4, 17, 18, 19, 44, 45, 46])) (
      .blk 4 (
        .loop (
          .seq (.reg false [
            ⟨(some 47), none, .bin .lss .i64 (.t 46) (.t 45), none⟩] (some [0, 3, 4, 17, 18, 19, 44, 45, 46, 47])) (
          .seq (.ite (.t 47) (
            .skip) (
            .exit 4)) (
          .seq (.blk 5 (
            .seq (.reg false [
              ⟨(some 48), none, .ixs 1 (.t 44) (.t 46), none⟩,
              ⟨(some 49), none, .ld none (.t 48), none⟩,
              ⟨(some 9), none, .mv false (.t 49), none⟩] (some [0, 3, 4, 9, 17, 18, 19, 44, 45, 46])) (
            .seq (.seq (.reg false [
              ⟨(some 50), none, .mv false (.t 9), none⟩,
              ⟨(some 51), none, .mv false (.t 4), none⟩,
              ⟨(some 52), none, .bin .leq .i64 (.t 50) (.t 51), none⟩,
              ⟨(some 53), none, .mv false (.t 52), none⟩,
              ⟨(some 54), some (53, false), .mv false (.t 9), none⟩,
              ⟨(some 55), some (53, false), .mv false (.t 0), none⟩,
              ⟨(some 56), some (53, false), .len false (.t 55), none⟩,
              ⟨(some 57), some (53, false), .bin .geq .i64 (.t 54) (.t 56), none⟩,
              ⟨(some 58), none, .pick (.t 53) (.c (.bool true)) (.t 57), none⟩] (some [0, 3, 4, 9, 17, 18, 19, 44, 45, 46, 58])) (
            .ite (.t 58) (
              .seq (.reg false [
                ⟨(some 2), none, .mv false (.c (.int .i64 8)), none⟩] (some [2])) (
              .ret)) (
              .skip))) (
            .seq (.seq (.reg false [
              ⟨(some 59), none, .mv false (.t 9), none⟩,
              ⟨(some 60), none, .ixa 64 1 (.t 3) (.t 59), none⟩,
              ⟨(some 61), none, .ld none (.t 60), none⟩] (some [0, 3, 4, 9, 17, 18, 19, 44, 45, 46, 61])) (
            .ite (.t 61) (
              .seq (.reg false [
                ⟨(some 2), none, .mv false (.c (.int .i64 7)), none⟩] (some [2])) (
              .ret)) (
              .skip))) (
            .reg false [
              ⟨(some 62), none, .mv false (.t 9), none⟩,
              ⟨(some 63), none, .ixa 64 1 (.t 3) (.t 62), none⟩,
              ⟨none, none, .st none (.t 63) (.c (.bool true)), none⟩] (some [0, 3, 4, 17, 18, 19, 44, 45, 46])))))) (
          .reg false [
            ⟨(some 64), none, .bin .add .i64 (.t 46) (.c (.int .i64 1)), none⟩,
            ⟨(some 46), none, .mv false (.t 64), none⟩] (some [0, 3, 4, 17, 18, 19, 44, 45, 46]))))))))))) (
    .reg false [
      ⟨(some 65), none, .bin .add .i64 (.t 19) (.c (.int .i64 1)), none⟩,
      ⟨(some 19), none, .mv false (.t 65), none⟩] (some [0, 3, 17, 18, 19])))))))) (
.seq (.seq (.reg false [
  ⟨(some 10), none, .mv false (.c (.int .i64 1)), none⟩] (some [0, 3, 10])) (
.blk 6 (
  .loop (
    .seq (.seq (.reg false [
      ⟨(some 66), none, .mv false (.t 10), none⟩,
      ⟨(some 67), none, .mv false (.t 0), none⟩,
      ⟨(some 68), none, .len false (.t 67), none⟩,
      ⟨(some 69), none, .bin .lss .i64 (.t 66) (.t 68), none⟩] (some [0, 3, 10, 69])) (
    .ite (.t 69) (
      .skip) (
      .exit 6))) (
    .seq (.blk 7 (
      .seq (.reg false [
        ⟨(some 72), none, .mv false (.t 10), none⟩,
        ⟨(some 73), none, .ixa 64 1 (.t 3) (.t 72), none⟩,
        ⟨(some 74), none, .ld none (.t 73), none⟩,
        ⟨(some 75), none, .not (.t 74), none⟩] (some [0, 3, 10, 75])) (
      .ite (.t 75) (
        .seq (.reg false [
          ⟨(some 2), none, .mv false (.c (.int .i64 6)), none⟩] (some [2])) (
        .ret)) (
        .skip)))) (
    .reg false [
      ⟨(some 70), none, .mv false (.t 10), none⟩,
      ⟨(some 71), none, .bin .add .i64 (.t 70) (.c (.int .i64 1)), none⟩,
      ⟨(some 10), none, .mv false (.t 71), none⟩] (some [0, 3, 10]))))))) (
.seq (.reg false [
  ⟨(some 2), none, .mv false (.c (.int .i64 0)), none⟩] (some [2])) (
.ret)))))))
set_option maxRecDepth 1000000 in
theorem comp_layout_Check : (Try.f20.body.bind fun code => compC Try.prog Try.f20.ntmps code c_layout_Check) = some c_layout_Check.bare := by kernel_rfl
def r_layout_Check : List R := [.t 2]
theorem spo_layout_Check {ds : List D} {d : D} (hn : Nat.ble ds.length 76 = true) (h : run TSpM gtab 0 c_layout_Check (retK r_layout_Check (· = d)) ⟨env0 0 ds, []⟩) : TSp 20 ds d := Sp_of mixed c_layout_Check r_layout_Check (fn := Try.f20) (by kernel_rfl) (by kernel_rfl) comp_layout_Check (by kernel_rfl) hn h
theorem spm_layout_Check {ds : List D} {d : D} {bx bx' : List Ent} (hn : Nat.ble ds.length 76 = true) (h : run TSpM gtab (sizeE bx) c_layout_Check (retG r_layout_Check (fun d1 bx1 => Rt (sizeE bx) bx1 d1 d bx')) ⟨env0 0 ds, bx⟩) : TSpM 20 ds bx d bx' := SpM_of mixed c_layout_Check r_layout_Check (fn := Try.f20) (by kernel_rfl) (by kernel_rfl) comp_layout_Check (by kernel_rfl) hn h
/-- glazier/layout.Least -/
def c_layout_Least : C := .seq (.reg false [
  ⟨(some 2), none, .mv false (.c (.int .i64 0)), none⟩,
  ⟨(some 3), none, .mv false (.c (.int .i64 0)), none⟩] (some [0])) (
.seq (.seq (.reg false [
  ⟨(some 5), none, .mv false (.t 0), none⟩,
  ⟨(some 6), none, .call false 20 [(.t 5)], none⟩,
  ⟨(some 7), none, .bin .neq .i64 (.t 6) (.c (.int .i64 0)), none⟩] (some [0, 7])) (
.ite (.t 7) (
  .seq (.reg false [
    ⟨(some 2), none, .mv false (.c (.int .i64 0)), none⟩,
    ⟨(some 3), none, .mv false (.c (.int .i64 0)), none⟩] (some [2, 3])) (
  .ret)) (
  .skip))) (
.seq (.reg false [
  ⟨(some 8), none, .mv false (.t 0), none⟩,
  ⟨(some 9), none, .call false 26 [(.t 8)], none⟩,
  ⟨(some 10), none, .ixs 4 (.t 9) (.c (.int .i64 0)), none⟩,
  ⟨(some 11), none, .ld (some 4) (.t 10), none⟩,
  ⟨(some 4), none, .alloc [(.int .i64 0), (.int .i64 0), (.int .i64 0), (.int .i64 0)], none⟩,
  ⟨none, none, .st (some 4) (.t 4) (.t 11), none⟩] (some [4])) (
.seq (.reg true [
  ⟨(some 12), none, .fld 2 (.t 4), none⟩,
  ⟨(some 13), none, .ld none (.t 12), none⟩,
  ⟨(some 14), none, .fld 3 (.t 4), none⟩,
  ⟨(some 15), none, .ld none (.t 14), none⟩,
  ⟨(some 2), none, .mv false (.t 13), none⟩,
  ⟨(some 3), none, .mv false (.t 15), none⟩] (some [2, 3])) (
.ret))))
set_option maxRecDepth 1000000 in
theorem comp_layout_Least : (Try.f21.body.bind fun code => compC Try.prog Try.f21.ntmps code c_layout_Least) = some c_layout_Least.bare := by kernel_rfl
def r_layout_Least : List R := [.t 2, .t 3]
theorem spo_layout_Least {ds : List D} {d : D} (hn : Nat.ble ds.length 16 = true) (h : run TSpM gtab 0 c_layout_Least (retK r_layout_Least (· = d)) ⟨env0 0 ds, []⟩) : TSp 21 ds d := Sp_of mixed c_layout_Least r_layout_Least (fn := Try.f21) (by kernel_rfl) (by kernel_rfl) comp_layout_Least (by kernel_rfl) hn h
theorem spm_layout_Least {ds : List D} {d : D} {bx bx' : List Ent} (hn : Nat.ble ds.length 16 = true) (h : run TSpM gtab (sizeE bx) c_layout_Least (retG r_layout_Least (fun d1 bx1 => Rt (sizeE bx) bx1 d1 d bx')) ⟨env0 0 ds, bx⟩) : TSpM 21 ds bx d bx' := SpM_of mixed c_layout_Least r_layout_Least (fn := Try.f21) (by kernel_rfl) (by kernel_rfl) comp_layout_Least (by kernel_rfl) hn h
/-- glazier/glazierref52.At -/
def c_ref52_At : C := .seq (.reg false [
  ⟨(some 6), none, .mv false (.c (.int .i64 0)), none⟩] (some [0, 1, 2])) (
.seq (.reg false [
  ⟨(some 7), none, .mv false (.c (.int .i64 (-1))), none⟩] (some [0, 1, 2, 7])) (
.seq (.seq (.reg false [
  ⟨(some 8), none, .mv false (.c (.int .i64 0)), none⟩] (some [0, 1, 2, 7, 8])) (
.blk 0 (
  .loop (
    .seq (.seq (.reg false [
      ⟨(some 9), none, .mv false (.t 8), none⟩,
      ⟨(some 10), none, .mv false (.t 2), none⟩,
      ⟨(some 11), none, .len false (.t 10), none⟩,
      ⟨(some 12), none, .bin .lss .i64 (.t 9) (.t 11), none⟩] (some [0, 1, 2, 7, 8, 12])) (
    .ite (.t 12) (
      .skip) (
      .exit 0))) (
    .seq (.blk 1 (
      .seq (.reg false [
        ⟨(some 15), none, .mv false (.t 2), none⟩,
        ⟨(some 16), none, .mv false (.t 8), none⟩,
        ⟨(some 17), none, .ixs 4 (.t 15) (.t 16), none⟩,
        ⟨(some 18), none, .ld (some 4) (.t 17), none⟩,
        ⟨(some 19), none, .mv false (.t 0), none⟩,
        ⟨(some 20), none, .mv false (.t 1), none⟩,
        ⟨(some 21), none, .call false 33 [(.t 18), (.t 19), (.t 20)], none⟩] (some [0, 1, 2, 7, 8, 21])) (
      .ite (.t 21) (
        .reg false [
          ⟨(some 22), none, .mv false (.t 8), none⟩,
          ⟨(some 7), none, .mv false (.t 22), none⟩] (some [0, 1, 2, 7, 8])) (
        .skip)))) (
    .reg false [
      ⟨(some 13), none, .mv false (.t 8), none⟩,
      ⟨(some 14), none, .bin .add .i64 (.t 13) (.c (.int .i64 1)), none⟩,
      ⟨(some 8), none, .mv false (.t 14), none⟩] (some [0, 1, 2, 7, 8]))))))) (
.seq (.reg false [
  ⟨(some 23), none, .mv false (.t 7), none⟩,
  ⟨(some 6), none, .mv false (.t 23), none⟩] (some [6])) (
.ret))))
set_option maxRecDepth 1000000 in
theorem comp_ref52_At : (Try.f22.body.bind fun code => compC Try.prog Try.f22.ntmps code c_ref52_At) = some c_ref52_At.bare := by kernel_rfl
def r_ref52_At : List R := [.t 6]
theorem spo_ref52_At {ds : List D} {d : D} (hn : Nat.ble ds.length 24 = true) (h : run TSpM gtab 0 c_ref52_At (retK r_ref52_At (· = d)) ⟨env0 0 ds, []⟩) : TSp 22 ds d := Sp_of mixed c_ref52_At r_ref52_At (fn := Try.f22) (by kernel_rfl) (by kernel_rfl) comp_ref52_At (by kernel_rfl) hn h
theorem spm_ref52_At {ds : List D} {d : D} {bx bx' : List Ent} (hn : Nat.ble ds.length 24 = true) (h : run TSpM gtab (sizeE bx) c_ref52_At (retG r_ref52_At (fun d1 bx1 => Rt (sizeE bx) bx1 d1 d bx')) ⟨env0 0 ds, bx⟩) : TSpM 22 ds bx d bx' := SpM_of mixed c_ref52_At r_ref52_At (fn := Try.f22) (by kernel_rfl) (by kernel_rfl) comp_ref52_At (by kernel_rfl) hn h
/-- glazier/glazierlaw52.row -/
def c_law52_row : C := .seq (.reg false [
  ⟨(some 0), none, .nilS 41 6, none⟩] (some [])) (
.seq (.reg false [
  ⟨(some 1), none, .bsl none 3 1 none [(.c (.int .i64 1)), (.c (.int .i64 2))], none⟩,
  ⟨(some 2), none, .bld [(.bool false), (.int .i64 0), (.int .i64 0), (.int .i64 0), (.int .i64 0), (.ls 1 [])] [(1, none, (.c (.int .i64 1))), (5, none, (.t 1))], none⟩,
  ⟨(some 3), none, .bld [(.bool false), (.int .i64 0), (.int .i64 0), (.int .i64 0), (.int .i64 0), (.ls 1 [])] [(2, none, (.c (.int .i64 3))), (3, none, (.c (.int .i64 2)))], none⟩,
  ⟨(some 4), none, .bld [(.bool false), (.int .i64 0), (.int .i64 0), (.int .i64 0), (.int .i64 0), (.ls 1 [])] [(2, none, (.c (.int .i64 2))), (3, none, (.c (.int .i64 4))), (4, none, (.c (.int .i64 1)))], none⟩,
  ⟨(some 5), none, .bsl none 41 6 (some 6) [(.t 2), (.t 3), (.t 4)], none⟩,
  ⟨(some 0), none, .mv false (.t 5), none⟩] (some [0])) (
.ret))
set_option maxRecDepth 1000000 in
theorem comp_law52_row : (Try.f23.body.bind fun code => compC Try.prog Try.f23.ntmps code c_law52_row) = some c_law52_row.bare := by kernel_rfl
def r_law52_row : List R := [.t 0]
theorem spo_law52_row {ds : List D} {d : D} (hn : Nat.ble ds.length 6 = true) (h : run TSpM gtab 0 c_law52_row (retK r_law52_row (· = d)) ⟨env0 0 ds, []⟩) : TSp 23 ds d := Sp_of mixed c_law52_row r_law52_row (fn := Try.f23) (by kernel_rfl) (by kernel_rfl) comp_law52_row (by kernel_rfl) hn h
theorem spm_law52_row {ds : List D} {d : D} {bx bx' : List Ent} (hn : Nat.ble ds.length 6 = true) (h : run TSpM gtab (sizeE bx) c_law52_row (retG r_law52_row (fun d1 bx1 => Rt (sizeE bx) bx1 d1 d bx')) ⟨env0 0 ds, bx⟩) : TSpM 23 ds bx d bx' := SpM_of mixed c_law52_row r_law52_row (fn := Try.f23) (by kernel_rfl) (by kernel_rfl) comp_law52_row (by kernel_rfl) hn h
/-- glazier/rect.Check -/
def c_rect_Check : C := .seq (.reg false [
  ⟨(some 1), none, .box true (.t 0), none⟩,
  ⟨(some 2), none, .mv false (.c (.int .i64 0)), none⟩] (some [1])) (
.seq (.seq (.reg false [
  ⟨(some 3), none, .ld (some 4) (.t 1), none⟩,
  ⟨(some 4), none, .bld [(.int .i64 0), (.int .i64 0), (.int .i64 0), (.int .i64 0)] [], none⟩,
  ⟨(some 5), none, .eqS false [.i .i64, .i .i64, .i .i64, .i .i64] (.t 3) (.t 4), none⟩,
  ⟨(some 6), none, .mv false (.t 5), none⟩,
  ⟨(some 7), some (6, false), .fld 0 (.t 1), none⟩,
  ⟨(some 8), some (6, false), .ld none (.t 7), none⟩,
  ⟨(some 9), some (6, false), .fld 2 (.t 1), none⟩,
  ⟨(some 10), some (6, false), .ld none (.t 9), none⟩,
  ⟨(some 11), some (6, false), .call false 34 [(.t 8), (.t 10)], none⟩,
  ⟨(some 12), some (6, false), .mv false (.t 11), none⟩,
  ⟨(some 13), some (12, true), .fld 1 (.t 1), none⟩,
  ⟨(some 14), some (12, true), .ld none (.t 13), none⟩,
  ⟨(some 15), some (12, true), .fld 3 (.t 1), none⟩,
  ⟨(some 16), some (12, true), .ld none (.t 15), none⟩,
  ⟨(some 17), some (12, true), .call false 34 [(.t 14), (.t 16)], none⟩,
  ⟨(some 18), some (6, false), .pick (.t 12) (.t 17) (.c (.bool false)), none⟩,
  ⟨(some 19), none, .pick (.t 6) (.c (.bool true)) (.t 18), none⟩] (some [19])) (
.ite (.t 19) (
  .seq (.reg false [
    ⟨(some 2), none, .mv false (.c (.int .i64 0)), none⟩] (some [2])) (
  .ret)) (
  .skip))) (
.seq (.reg false [
  ⟨(some 2), none, .mv false (.c (.int .i64 1)), none⟩] (some [2])) (
.ret)))
set_option maxRecDepth 1000000 in
theorem comp_rect_Check : (Try.f24.body.bind fun code => compC Try.prog Try.f24.ntmps code c_rect_Check) = some c_rect_Check.bare := by kernel_rfl
def r_rect_Check : List R := [.t 2]
theorem spo_rect_Check {ds : List D} {d : D} (hn : Nat.ble ds.length 20 = true) (h : run TSpM gtab 0 c_rect_Check (retK r_rect_Check (· = d)) ⟨env0 0 ds, []⟩) : TSp 24 ds d := Sp_of mixed c_rect_Check r_rect_Check (fn := Try.f24) (by kernel_rfl) (by kernel_rfl) comp_rect_Check (by kernel_rfl) hn h
theorem spm_rect_Check {ds : List D} {d : D} {bx bx' : List Ent} (hn : Nat.ble ds.length 20 = true) (h : run TSpM gtab (sizeE bx) c_rect_Check (retG r_rect_Check (fun d1 bx1 => Rt (sizeE bx) bx1 d1 d bx')) ⟨env0 0 ds, bx⟩) : TSpM 24 ds bx d bx' := SpM_of mixed c_rect_Check r_rect_Check (fn := Try.f24) (by kernel_rfl) (by kernel_rfl) comp_rect_Check (by kernel_rfl) hn h
/-- glazier/rect.Empty -/
def c_rect_Empty : C := .seq (.reg false [
  ⟨(some 1), none, .box true (.t 0), none⟩,
  ⟨(some 2), none, .mv false (.c (.bool false)), none⟩] (some [1])) (
.seq (.reg false [
  ⟨(some 3), none, .ld (some 4) (.t 1), none⟩,
  ⟨(some 4), none, .call false 35 [(.t 3)], none⟩,
  ⟨(some 5), none, .bld [(.int .i64 0), (.int .i64 0), (.int .i64 0), (.int .i64 0)] [], none⟩,
  ⟨(some 6), none, .eqS false [.i .i64, .i .i64, .i .i64, .i .i64] (.t 4) (.t 5), none⟩,
  ⟨(some 2), none, .mv false (.t 6), none⟩] (some [2])) (
.ret))
set_option maxRecDepth 1000000 in
theorem comp_rect_Empty : (Try.f25.body.bind fun code => compC Try.prog Try.f25.ntmps code c_rect_Empty) = some c_rect_Empty.bare := by kernel_rfl
def r_rect_Empty : List R := [.t 2]
theorem spo_rect_Empty {ds : List D} {d : D} (hn : Nat.ble ds.length 7 = true) (h : run TSpM gtab 0 c_rect_Empty (retK r_rect_Empty (· = d)) ⟨env0 0 ds, []⟩) : TSp 25 ds d := Sp_of mixed c_rect_Empty r_rect_Empty (fn := Try.f25) (by kernel_rfl) (by kernel_rfl) comp_rect_Empty (by kernel_rfl) hn h
theorem spm_rect_Empty {ds : List D} {d : D} {bx bx' : List Ent} (hn : Nat.ble ds.length 7 = true) (h : run TSpM gtab (sizeE bx) c_rect_Empty (retG r_rect_Empty (fun d1 bx1 => Rt (sizeE bx) bx1 d1 d bx')) ⟨env0 0 ds, bx⟩) : TSpM 25 ds bx d bx' := SpM_of mixed c_rect_Empty r_rect_Empty (fn := Try.f25) (by kernel_rfl) (by kernel_rfl) comp_rect_Empty (by kernel_rfl) hn h
/-- glazier/layout.leasts -/
def c_layout_leasts : C := .seq (.reg false [
  ⟨(some 1), none, .box false (.t 0), none⟩,
  ⟨(some 2), none, .nilS 33 4, none⟩] (some [1])) (
.seq (.reg false [
  ⟨(some 5), none, .ld none (.t 1), none⟩,
  ⟨(some 6), none, .len false (.t 5), none⟩,
  ⟨(some 7), none, .mks 33 4 (some 4) [(.int .i64 0), (.int .i64 0), (.int .i64 0), (.int .i64 0)] (.t 6) (.t 6), none⟩,
  ⟨(some 3), none, .alloc [(.ls 4 [])], none⟩,
  ⟨none, none, .st none (.t 3) (.t 7), none⟩] (some [1, 3])) (
.seq (.reg false [
  ⟨(some 4), none, .alloc [.nil], none⟩] (some [1, 3, 4])) (
.seq (.reg false [
  ⟨(some 8), none, .clo 36 [(.t 1), (.t 4), (.t 3)], none⟩,
  ⟨none, none, .st none (.t 4) (.t 8), none⟩] (some [3, 4])) (
.seq (.reg false [
  ⟨(some 9), none, .ld none (.t 4), none⟩,
  ⟨(some 10), none, .callv true (.t 9) [(.c (.int .i64 0))], none⟩] (some [3])) (
.seq (.reg false [
  ⟨(some 11), none, .ld none (.t 3), none⟩,
  ⟨(some 2), none, .mv false (.t 11), none⟩] (some [2])) (
.ret))))))
set_option maxRecDepth 1000000 in
theorem comp_layout_leasts : (Try.f26.body.bind fun code => compC Try.prog Try.f26.ntmps code c_layout_leasts) = some c_layout_leasts.bare := by kernel_rfl
def r_layout_leasts : List R := [.t 2]
theorem spo_layout_leasts {ds : List D} {d : D} (hn : Nat.ble ds.length 12 = true) (h : run TSpM gtab 0 c_layout_leasts (retK r_layout_leasts (· = d)) ⟨env0 0 ds, []⟩) : TSp 26 ds d := Sp_of mixed c_layout_leasts r_layout_leasts (fn := Try.f26) (by kernel_rfl) (by kernel_rfl) comp_layout_leasts (by kernel_rfl) hn h
theorem spm_layout_leasts {ds : List D} {d : D} {bx bx' : List Ent} (hn : Nat.ble ds.length 12 = true) (h : run TSpM gtab (sizeE bx) c_layout_leasts (retG r_layout_leasts (fun d1 bx1 => Rt (sizeE bx) bx1 d1 d bx')) ⟨env0 0 ds, bx⟩) : TSpM 26 ds bx d bx' := SpM_of mixed c_layout_leasts r_layout_leasts (fn := Try.f26) (by kernel_rfl) (by kernel_rfl) comp_layout_leasts (by kernel_rfl) hn h
/-- glazier/layout.placeKids -/
def c_layout_placeKids : C := .seq (.reg false [
  ⟨(some 5), none, .box true (.t 0), none⟩,
  ⟨(some 6), none, .box true (.t 1), none⟩] (some [2, 3, 4, 5, 6])) (
.seq (.seq (.reg false [
  ⟨(some 24), none, .fld 5 (.t 5), none⟩,
  ⟨(some 25), none, .ld none (.t 24), none⟩,
  ⟨(some 26), none, .len false (.t 25), none⟩,
  ⟨(some 27), none, .bin .eql .i64 (.t 26) (.c (.int .i64 0)), none⟩] (some [2, 3, 4, 5, 6, 27])) (
.ite (.t 27) (
  .ret) (
  .skip))) (
.seq (.reg false [
  ⟨(some 10), none, .nilS 3 1, none⟩,
  ⟨(some 11), none, .nilS 3 1, none⟩] (some [2, 3, 4, 5, 6, 10, 11])) (
.seq (.seq (.reg false [
  ⟨(some 28), none, .fld 5 (.t 5), none⟩,
  ⟨(some 29), none, .ld none (.t 28), none⟩,
  ⟨(some 30), none, .len false (.t 29), none⟩,
  ⟨(some 31), none, .mv false (.c (.int .i64 0)), none⟩] (some [2, 3, 4, 5, 6, 10, 11, 29, 30, 31])) (
.blk 0 (
  .loop (
    .seq (.reg false [
      ⟨(some 32), none, .bin .lss .i64 (.t 31) (.t 30), none⟩] (some [2, 3, 4, 5, 6, 10, 11, 29, 30, 31, 32])) (
    .seq (.ite (.t 32) (
      .skip) (
      .exit 0)) (
    .seq (.blk 1 (
      .seq (.reg false [
        ⟨(some 33), none, .ixs 1 (.t 29) (.t 31), none⟩,
        ⟨(some 34), none, .ld none (.t 33), none⟩,
        ⟨(some 13), none, .mv false (.t 34), none⟩] (some [2, 3, 4, 5, 6, 10, 11, 13, 29, 30, 31])) (
      .seq (.reg true [
        ⟨(some 36), none, .ld (some 6) (.t 5), none⟩,
        ⟨(some 37), none, .mv false (.t 3), none⟩,
        ⟨(some 38), none, .mv false (.t 13), none⟩,
        ⟨(some 39), none, .ixs 4 (.t 37) (.t 38), none⟩,
        ⟨(some 40), none, .fld 2 (.t 39), none⟩,
        ⟨(some 41), none, .ld none (.t 40), none⟩,
        ⟨(some 42), none, .mv false (.t 3), none⟩,
        ⟨(some 43), none, .mv false (.t 13), none⟩,
        ⟨(some 44), none, .ixs 4 (.t 42) (.t 43), none⟩,
        ⟨(some 45), none, .fld 3 (.t 44), none⟩,
        ⟨(some 46), none, .ld none (.t 45), none⟩,
        ⟨(some 47), none, .call false 39 [(.t 36), (.t 41), (.t 46)], none⟩,
        ⟨(some 35), none, .mv false (.t 47), none⟩,
        ⟨(some 48), none, .ext (.t 35) 0, none⟩,
        ⟨(some 49), none, .ext (.t 35) 1, none⟩,
        ⟨(some 14), none, .mv false (.t 48), none⟩,
        ⟨(some 15), none, .mv false (.t 49), none⟩] (some [2, 3, 4, 5, 6, 10, 11, 13, 14, 29, 30, 31])) (
      .seq (.reg false [
        ⟨(some 50), none, .mv false (.t 10), none⟩,
        ⟨(some 51), none, .mv false (.t 14), none⟩,
        ⟨(some 52), none, .bsl none 3 1 none [(.t 51)], none⟩,
        ⟨(some 53), none, .app 3 1 8 (.t 50) (.t 52), none⟩,
        ⟨(some 10), none, .mv false (.t 53), none⟩] (some [2, 3, 4, 5, 6, 10, 11, 13, 29, 30, 31])) (
      .reg false [
        ⟨(some 54), none, .mv false (.t 11), none⟩,
        ⟨(some 55), none, .mv false (.t 4), none⟩,
        ⟨(some 56), none, .mv false (.t 13), none⟩,
        ⟨(some 57), none, .ixs 6 (.t 55) (.t 56), none⟩,
        ⟨(some 58), none, .fld 4 (.t 57), none⟩,
        ⟨(some 59), none, .ld none (.t 58), none⟩,
        ⟨(some 60), none, .bsl none 3 1 none [(.t 59)], none⟩,
        ⟨(some 61), none, .app 3 1 8 (.t 54) (.t 60), none⟩,
        ⟨(some 11), none, .mv false (.t 61), none⟩] (some [2, 3, 4, 5, 6, 10, 11, 29, 30, 31])))))) (
    .reg false [
      ⟨(some 62), none, .bin .add .i64 (.t 31) (.c (.int .i64 1)), none⟩,
      ⟨(some 31), none, .mv false (.t 62), none⟩] (some [2, 3, 4, 5, 6, 10, 11, 29, 30, 31])))))))) (
.seq (.reg false [
  ⟨(some 64), none, .ld (some 6) (.t 5), none⟩,
  ⟨(some 65), none, .fld 2 (.t 6), none⟩,
  ⟨(some 66), none, .ld none (.t 65), none⟩,
  ⟨(some 67), none, .fld 3 (.t 6), none⟩,
  ⟨(some 68), none, .ld none (.t 67), none⟩,
  ⟨(some 69), none, .call false 39 [(.t 64), (.t 66), (.t 68)], none⟩,
  ⟨(some 63), none, .mv false (.t 69), none⟩,
  ⟨(some 70), none, .ext (.t 63) 0, none⟩,
  ⟨(some 71), none, .ext (.t 63) 1, none⟩,
  ⟨(some 16), none, .mv false (.t 70), none⟩,
  ⟨(some 17), none, .mv false (.t 71), none⟩] (some [2, 5, 6, 10, 11, 16])) (
.seq (.reg false [
  ⟨(some 73), none, .mv false (.t 16), none⟩,
  ⟨(some 74), none, .ld (some 6) (.t 5), none⟩,
  ⟨(some 75), none, .call false 38 [(.t 74)], none⟩,
  ⟨(some 76), none, .bin .sub .i64 (.t 73) (.t 75), none⟩,
  ⟨(some 77), none, .mx (.t 76) (.c (.int .i64 0)), none⟩,
  ⟨(some 78), none, .mv false (.t 10), none⟩,
  ⟨(some 79), none, .mv false (.t 11), none⟩,
  ⟨(some 80), none, .call true 10 [(.t 77), (.t 78), (.t 79)], none⟩,
  ⟨(some 72), none, .mv false (.t 80), none⟩,
  ⟨(some 81), none, .ext (.t 72) 0, none⟩,
  ⟨(some 82), none, .ext (.t 72) 1, none⟩,
  ⟨(some 18), none, .mv false (.t 81), none⟩,
  ⟨(some 19), none, .mv false (.t 82), none⟩] (some [2, 5, 6, 18, 19])) (
.seq (.seq (.reg false [
  ⟨(some 83), none, .mv false (.t 19), none⟩,
  ⟨(some 84), none, .bin .neq .i64 (.t 83) (.c (.int .i64 0)), none⟩] (some [2, 5, 6, 18, 84])) (
.ite (.t 84) (
  .ret) (
  .skip))) (
.seq (.reg true [
  ⟨(some 85), none, .fld 0 (.t 6), none⟩,
  ⟨(some 86), none, .ld none (.t 85), none⟩,
  ⟨(some 87), none, .fld 1 (.t 6), none⟩,
  ⟨(some 88), none, .ld none (.t 87), none⟩,
  ⟨(some 20), none, .mv false (.t 86), none⟩,
  ⟨(some 21), none, .mv false (.t 88), none⟩] (some [2, 5, 6, 18, 20, 21])) (
.seq (.reg false [
  ⟨(some 89), none, .fld 5 (.t 5), none⟩,
  ⟨(some 90), none, .ld none (.t 89), none⟩,
  ⟨(some 91), none, .len false (.t 90), none⟩,
  ⟨(some 92), none, .mv false (.c (.int .i64 0)), none⟩] (some [2, 5, 6, 18, 20, 21, 90, 91, 92])) (
.blk 2 (
  .loop (
    .seq (.reg false [
      ⟨(some 93), none, .bin .lss .i64 (.t 92) (.t 91), none⟩] (some [2, 5, 6, 18, 20, 21, 90, 91, 92, 93])) (
    .seq (.ite (.t 93) (
      .skip) (
      .exit 2)) (
    .seq (.blk 3 (
      .seq (.reg false [
        ⟨(some 94), none, .mv false (.t 92), none⟩,
        ⟨(some 95), none, .ixs 1 (.t 90) (.t 92), none⟩,
        ⟨(some 96), none, .ld none (.t 95), none⟩,
        ⟨(some 22), none, .mv false (.t 94), none⟩,
        ⟨(some 23), none, .mv false (.t 96), none⟩] (some [2, 5, 6, 18, 20, 21, 22, 23, 90, 91, 92])) (
      .seq (.reg false [
        ⟨(some 97), none, .fld 0 (.t 5), none⟩,
        ⟨(some 98), none, .ld none (.t 97), none⟩] (some [2, 5, 6, 18, 20, 21, 22, 23, 90, 91, 92, 98])) (
      .ite (.t 98) (
        .seq (.reg true [
          ⟨(some 99), none, .mv false (.t 2), none⟩,
          ⟨(some 100), none, .mv false (.t 23), none⟩,
          ⟨(some 101), none, .mv false (.t 20), none⟩,
          ⟨(some 102), none, .mv false (.t 21), none⟩,
          ⟨(some 103), none, .fld 2 (.t 6), none⟩,
          ⟨(some 104), none, .ld none (.t 103), none⟩,
          ⟨(some 105), none, .mv false (.t 18), none⟩,
          ⟨(some 106), none, .mv false (.t 22), none⟩,
          ⟨(some 107), none, .ixs 1 (.t 105) (.t 106), none⟩,
          ⟨(some 108), none, .ld none (.t 107), none⟩,
          ⟨(some 109), none, .bld [(.int .i64 0), (.int .i64 0), (.int .i64 0), (.int .i64 0)] [(0, none, (.t 101)), (1, none, (.t 102)), (2, none, (.t 104)), (3, none, (.t 108))], none⟩,
          ⟨(some 110), none, .ixs 4 (.t 99) (.t 100), none⟩,
          ⟨none, none, .st (some 4) (.t 110) (.t 109), none⟩] (some [2, 5, 6, 18, 20, 21, 22, 90, 91, 92])) (
        .reg true [
          ⟨(some 111), none, .mv false (.t 21), none⟩,
          ⟨(some 112), none, .mv false (.t 18), none⟩,
          ⟨(some 113), none, .mv false (.t 22), none⟩,
          ⟨(some 114), none, .ixs 1 (.t 112) (.t 113), none⟩,
          ⟨(some 115), none, .ld none (.t 114), none⟩,
          ⟨(some 116), none, .fld 1 (.t 5), none⟩,
          ⟨(some 117), none, .ld none (.t 116), none⟩,
          ⟨(some 118), none, .bin .add .i64 (.t 115) (.t 117), none⟩,
          ⟨(some 119), none, .bin .add .i64 (.t 111) (.t 118), none⟩,
          ⟨(some 21), none, .mv false (.t 119), none⟩] (some [2, 5, 6, 18, 20, 21, 90, 91, 92]))) (
        .seq (.reg true [
          ⟨(some 120), none, .mv false (.t 2), none⟩,
          ⟨(some 121), none, .mv false (.t 23), none⟩,
          ⟨(some 122), none, .mv false (.t 20), none⟩,
          ⟨(some 123), none, .mv false (.t 21), none⟩,
          ⟨(some 124), none, .mv false (.t 18), none⟩,
          ⟨(some 125), none, .mv false (.t 22), none⟩,
          ⟨(some 126), none, .ixs 1 (.t 124) (.t 125), none⟩,
          ⟨(some 127), none, .ld none (.t 126), none⟩,
          ⟨(some 128), none, .fld 3 (.t 6), none⟩,
          ⟨(some 129), none, .ld none (.t 128), none⟩,
          ⟨(some 130), none, .bld [(.int .i64 0), (.int .i64 0), (.int .i64 0), (.int .i64 0)] [(0, none, (.t 122)), (1, none, (.t 123)), (2, none, (.t 127)), (3, none, (.t 129))], none⟩,
          ⟨(some 131), none, .ixs 4 (.t 120) (.t 121), none⟩,
          ⟨none, none, .st (some 4) (.t 131) (.t 130), none⟩] (some [2, 5, 6, 18, 20, 21, 22, 90, 91, 92])) (
        .reg true [
          ⟨(some 132), none, .mv false (.t 20), none⟩,
          ⟨(some 133), none, .mv false (.t 18), none⟩,
          ⟨(some 134), none, .mv false (.t 22), none⟩,
          ⟨(some 135), none, .ixs 1 (.t 133) (.t 134), none⟩,
          ⟨(some 136), none, .ld none (.t 135), none⟩,
          ⟨(some 137), none, .fld 1 (.t 5), none⟩,
          ⟨(some 138), none, .ld none (.t 137), none⟩,
          ⟨(some 139), none, .bin .add .i64 (.t 136) (.t 138), none⟩,
          ⟨(some 140), none, .bin .add .i64 (.t 132) (.t 139), none⟩,
          ⟨(some 20), none, .mv false (.t 140), none⟩] (some [2, 5, 6, 18, 20, 21, 90, 91, 92]))))))) (
    .reg false [
      ⟨(some 141), none, .bin .add .i64 (.t 92) (.c (.int .i64 1)), none⟩,
      ⟨(some 92), none, .mv false (.t 141), none⟩] (some [2, 5, 6, 18, 20, 21, 90, 91, 92])))))))))))))))
set_option maxRecDepth 1000000 in
theorem comp_layout_placeKids : (Try.f27.body.bind fun code => compC Try.prog Try.f27.ntmps code c_layout_placeKids) = some c_layout_placeKids.bare := by kernel_rfl
def r_layout_placeKids : List R := []
theorem spo_layout_placeKids {ds : List D} {d : D} (hn : Nat.ble ds.length 142 = true) (h : run TSpM gtab 0 c_layout_placeKids (retK r_layout_placeKids (· = d)) ⟨env0 0 ds, []⟩) : TSp 27 ds d := Sp_of mixed c_layout_placeKids r_layout_placeKids (fn := Try.f27) (by kernel_rfl) (by kernel_rfl) comp_layout_placeKids (by kernel_rfl) hn h
theorem spm_layout_placeKids {ds : List D} {d : D} {bx bx' : List Ent} (hn : Nat.ble ds.length 142 = true) (h : run TSpM gtab (sizeE bx) c_layout_placeKids (retG r_layout_placeKids (fun d1 bx1 => Rt (sizeE bx) bx1 d1 d bx')) ⟨env0 0 ds, bx⟩) : TSpM 27 ds bx d bx' := SpM_of mixed c_layout_placeKids r_layout_placeKids (fn := Try.f27) (by kernel_rfl) (by kernel_rfl) comp_layout_placeKids (by kernel_rfl) hn h
/-- glazier/glazierref12.As -/
def c_ref12_As : C := .seq (.reg false [
  ⟨(some 1), none, .box true (.t 0), none⟩,
  ⟨(some 2), none, .alloc [(.int .i64 0), (.int .i64 0), (.int .i64 0), (.int .i64 0)], none⟩] (some [1, 2])) (
.seq (.seq (.reg false [
  ⟨(some 3), none, .ld (some 4) (.t 1), none⟩,
  ⟨(some 4), none, .call false 40 [(.t 3)], none⟩,
  ⟨(some 5), none, .not (.t 4), none⟩] (some [1, 2, 5])) (
.ite (.t 5) (
  .seq (.reg false [
    ⟨(some 6), none, .bld [(.int .i64 0), (.int .i64 0), (.int .i64 0), (.int .i64 0)] [], none⟩,
    ⟨none, none, .st (some 4) (.t 2) (.t 6), none⟩] (some [2])) (
  .ret)) (
  .skip))) (
.seq (.reg false [
  ⟨(some 7), none, .ld (some 4) (.t 1), none⟩,
  ⟨none, none, .st (some 4) (.t 2) (.t 7), none⟩] (some [2])) (
.ret)))
set_option maxRecDepth 1000000 in
theorem comp_ref12_As : (Try.f28.body.bind fun code => compC Try.prog Try.f28.ntmps code c_ref12_As) = some c_ref12_As.bare := by kernel_rfl
def r_ref12_As : List R := [.cell 2 (some 4)]
theorem spo_ref12_As {ds : List D} {d : D} (hn : Nat.ble ds.length 8 = true) (h : run TSpM gtab 0 c_ref12_As (retK r_ref12_As (· = d)) ⟨env0 0 ds, []⟩) : TSp 28 ds d := Sp_of mixed c_ref12_As r_ref12_As (fn := Try.f28) (by kernel_rfl) (by kernel_rfl) comp_ref12_As (by kernel_rfl) hn h
theorem spm_ref12_As {ds : List D} {d : D} {bx bx' : List Ent} (hn : Nat.ble ds.length 8 = true) (h : run TSpM gtab (sizeE bx) c_ref12_As (retG r_ref12_As (fun d1 bx1 => Rt (sizeE bx) bx1 d1 d bx')) ⟨env0 0 ds, bx⟩) : TSpM 28 ds bx d bx' := SpM_of mixed c_ref12_As r_ref12_As (fn := Try.f28) (by kernel_rfl) (by kernel_rfl) comp_ref12_As (by kernel_rfl) hn h
/-- glazier/glazierref12.of -/
def c_ref12_of : C := .seq (.reg false [
  ⟨(some 8), none, .alloc [(.int .i64 0), (.int .i64 0), (.int .i64 0), (.int .i64 0)], none⟩] (some [0, 1, 2, 3, 8])) (
.seq (.seq (.reg false [
  ⟨(some 9), none, .mv false (.t 2), none⟩,
  ⟨(some 10), none, .mv false (.t 0), none⟩,
  ⟨(some 11), none, .bin .leq .i64 (.t 9) (.t 10), none⟩,
  ⟨(some 12), none, .mv false (.t 11), none⟩,
  ⟨(some 13), some (12, false), .mv false (.t 3), none⟩,
  ⟨(some 14), some (12, false), .mv false (.t 1), none⟩,
  ⟨(some 15), some (12, false), .bin .leq .i64 (.t 13) (.t 14), none⟩,
  ⟨(some 16), none, .pick (.t 12) (.c (.bool true)) (.t 15), none⟩] (some [0, 1, 2, 3, 8, 16])) (
.ite (.t 16) (
  .seq (.reg false [
    ⟨(some 17), none, .bld [(.int .i64 0), (.int .i64 0), (.int .i64 0), (.int .i64 0)] [], none⟩,
    ⟨none, none, .st (some 4) (.t 8) (.t 17), none⟩] (some [8])) (
  .ret)) (
  .skip))) (
.seq (.reg false [
  ⟨(some 18), none, .mv false (.t 0), none⟩,
  ⟨(some 19), none, .mv false (.t 1), none⟩,
  ⟨(some 20), none, .mv false (.t 2), none⟩,
  ⟨(some 21), none, .mv false (.t 0), none⟩,
  ⟨(some 22), none, .bin .sub .i64 (.t 20) (.t 21), none⟩,
  ⟨(some 23), none, .mv false (.t 3), none⟩,
  ⟨(some 24), none, .mv false (.t 1), none⟩,
  ⟨(some 25), none, .bin .sub .i64 (.t 23) (.t 24), none⟩,
  ⟨(some 26), none, .bld [(.int .i64 0), (.int .i64 0), (.int .i64 0), (.int .i64 0)] [(0, none, (.t 18)), (1, none, (.t 19)), (2, none, (.t 22)), (3, none, (.t 25))], none⟩,
  ⟨none, none, .st (some 4) (.t 8) (.t 26), none⟩] (some [8])) (
.ret)))
set_option maxRecDepth 1000000 in
theorem comp_ref12_of : (Try.f29.body.bind fun code => compC Try.prog Try.f29.ntmps code c_ref12_of) = some c_ref12_of.bare := by kernel_rfl
def r_ref12_of : List R := [.cell 8 (some 4)]
theorem spo_ref12_of {ds : List D} {d : D} (hn : Nat.ble ds.length 27 = true) (h : run TSpM gtab 0 c_ref12_of (retK r_ref12_of (· = d)) ⟨env0 0 ds, []⟩) : TSp 29 ds d := Sp_of mixed c_ref12_of r_ref12_of (fn := Try.f29) (by kernel_rfl) (by kernel_rfl) comp_ref12_of (by kernel_rfl) hn h
theorem spm_ref12_of {ds : List D} {d : D} {bx bx' : List Ent} (hn : Nat.ble ds.length 27 = true) (h : run TSpM gtab (sizeE bx) c_ref12_of (retG r_ref12_of (fun d1 bx1 => Rt (sizeE bx) bx1 d1 d bx')) ⟨env0 0 ds, bx⟩) : TSpM 29 ds bx d bx' := SpM_of mixed c_ref12_of r_ref12_of (fn := Try.f29) (by kernel_rfl) (by kernel_rfl) comp_ref12_of (by kernel_rfl) hn h
/-- glazier/glazierref12.more -/
def c_ref12_more : C := .seq (.reg false [
  ⟨(some 4), none, .mv false (.c (.int .i64 0)), none⟩] (some [0, 1])) (
.seq (.seq (.reg false [
  ⟨(some 5), none, .mv false (.t 0), none⟩,
  ⟨(some 6), none, .mv false (.t 1), none⟩,
  ⟨(some 7), none, .bin .gtr .i64 (.t 5) (.t 6), none⟩] (some [0, 1, 7])) (
.ite (.t 7) (
  .seq (.reg false [
    ⟨(some 8), none, .mv false (.t 0), none⟩,
    ⟨(some 4), none, .mv false (.t 8), none⟩] (some [4])) (
  .ret)) (
  .skip))) (
.seq (.reg false [
  ⟨(some 9), none, .mv false (.t 1), none⟩,
  ⟨(some 4), none, .mv false (.t 9), none⟩] (some [4])) (
.ret)))
set_option maxRecDepth 1000000 in
theorem comp_ref12_more : (Try.f30.body.bind fun code => compC Try.prog Try.f30.ntmps code c_ref12_more) = some c_ref12_more.bare := by kernel_rfl
def r_ref12_more : List R := [.t 4]
theorem spo_ref12_more {ds : List D} {d : D} (hn : Nat.ble ds.length 10 = true) (h : run TSpM gtab 0 c_ref12_more (retK r_ref12_more (· = d)) ⟨env0 0 ds, []⟩) : TSp 30 ds d := Sp_of mixed c_ref12_more r_ref12_more (fn := Try.f30) (by kernel_rfl) (by kernel_rfl) comp_ref12_more (by kernel_rfl) hn h
theorem spm_ref12_more {ds : List D} {d : D} {bx bx' : List Ent} (hn : Nat.ble ds.length 10 = true) (h : run TSpM gtab (sizeE bx) c_ref12_more (retG r_ref12_more (fun d1 bx1 => Rt (sizeE bx) bx1 d1 d bx')) ⟨env0 0 ds, bx⟩) : TSpM 30 ds bx d bx' := SpM_of mixed c_ref12_more r_ref12_more (fn := Try.f30) (by kernel_rfl) (by kernel_rfl) comp_ref12_more (by kernel_rfl) hn h
/-- glazier/glazierref12.less -/
def c_ref12_less : C := .seq (.reg false [
  ⟨(some 4), none, .mv false (.c (.int .i64 0)), none⟩] (some [0, 1])) (
.seq (.seq (.reg false [
  ⟨(some 5), none, .mv false (.t 0), none⟩,
  ⟨(some 6), none, .mv false (.t 1), none⟩,
  ⟨(some 7), none, .bin .lss .i64 (.t 5) (.t 6), none⟩] (some [0, 1, 7])) (
.ite (.t 7) (
  .seq (.reg false [
    ⟨(some 8), none, .mv false (.t 0), none⟩,
    ⟨(some 4), none, .mv false (.t 8), none⟩] (some [4])) (
  .ret)) (
  .skip))) (
.seq (.reg false [
  ⟨(some 9), none, .mv false (.t 1), none⟩,
  ⟨(some 4), none, .mv false (.t 9), none⟩] (some [4])) (
.ret)))
set_option maxRecDepth 1000000 in
theorem comp_ref12_less : (Try.f31.body.bind fun code => compC Try.prog Try.f31.ntmps code c_ref12_less) = some c_ref12_less.bare := by kernel_rfl
def r_ref12_less : List R := [.t 4]
theorem spo_ref12_less {ds : List D} {d : D} (hn : Nat.ble ds.length 10 = true) (h : run TSpM gtab 0 c_ref12_less (retK r_ref12_less (· = d)) ⟨env0 0 ds, []⟩) : TSp 31 ds d := Sp_of mixed c_ref12_less r_ref12_less (fn := Try.f31) (by kernel_rfl) (by kernel_rfl) comp_ref12_less (by kernel_rfl) hn h
theorem spm_ref12_less {ds : List D} {d : D} {bx bx' : List Ent} (hn : Nat.ble ds.length 10 = true) (h : run TSpM gtab (sizeE bx) c_ref12_less (retG r_ref12_less (fun d1 bx1 => Rt (sizeE bx) bx1 d1 d bx')) ⟨env0 0 ds, bx⟩) : TSpM 31 ds bx d bx' := SpM_of mixed c_ref12_less r_ref12_less (fn := Try.f31) (by kernel_rfl) (by kernel_rfl) comp_ref12_less (by kernel_rfl) hn h
/-- glazier/rect.Has -/
def c_rect_Has : C := .seq (.reg false [
  ⟨(some 3), none, .box true (.t 0), none⟩,
  ⟨(some 6), none, .mv false (.c (.bool false)), none⟩] (some [1, 2, 3])) (
.seq (.reg false [
  ⟨(some 7), none, .ld (some 4) (.t 3), none⟩,
  ⟨(some 8), none, .call false 35 [(.t 7)], none⟩,
  ⟨none, none, .st (some 4) (.t 3) (.t 8), none⟩] (some [1, 2, 3])) (
.seq (.reg false [
  ⟨(some 9), none, .fld 0 (.t 3), none⟩,
  ⟨(some 10), none, .ld none (.t 9), none⟩,
  ⟨(some 11), none, .mv false (.t 1), none⟩,
  ⟨(some 12), none, .bin .leq .i64 (.t 10) (.t 11), none⟩,
  ⟨(some 13), none, .mv false (.t 12), none⟩,
  ⟨(some 14), some (13, true), .mv false (.t 1), none⟩,
  ⟨(some 15), some (13, true), .fld 0 (.t 3), none⟩,
  ⟨(some 16), some (13, true), .ld none (.t 15), none⟩,
  ⟨(some 17), some (13, true), .fld 2 (.t 3), none⟩,
  ⟨(some 18), some (13, true), .ld none (.t 17), none⟩,
  ⟨(some 19), some (13, true), .bin .add .i64 (.t 16) (.t 18), none⟩,
  ⟨(some 20), some (13, true), .bin .lss .i64 (.t 14) (.t 19), none⟩,
  ⟨(some 21), none, .pick (.t 13) (.t 20) (.c (.bool false)), none⟩,
  ⟨(some 22), none, .mv false (.t 21), none⟩,
  ⟨(some 23), some (22, true), .fld 1 (.t 3), none⟩,
  ⟨(some 24), some (22, true), .ld none (.t 23), none⟩,
  ⟨(some 25), some (22, true), .mv false (.t 2), none⟩,
  ⟨(some 26), some (22, true), .bin .leq .i64 (.t 24) (.t 25), none⟩,
  ⟨(some 27), none, .pick (.t 22) (.t 26) (.c (.bool false)), none⟩,
  ⟨(some 28), none, .mv false (.t 27), none⟩,
  ⟨(some 29), some (28, true), .mv false (.t 2), none⟩,
  ⟨(some 30), some (28, true), .fld 1 (.t 3), none⟩,
  ⟨(some 31), some (28, true), .ld none (.t 30), none⟩,
  ⟨(some 32), some (28, true), .fld 3 (.t 3), none⟩,
  ⟨(some 33), some (28, true), .ld none (.t 32), none⟩,
  ⟨(some 34), some (28, true), .bin .add .i64 (.t 31) (.t 33), none⟩,
  ⟨(some 35), some (28, true), .bin .lss .i64 (.t 29) (.t 34), none⟩,
  ⟨(some 36), none, .pick (.t 28) (.t 35) (.c (.bool false)), none⟩,
  ⟨(some 6), none, .mv false (.t 36), none⟩] (some [6])) (
.ret)))
set_option maxRecDepth 1000000 in
theorem comp_rect_Has : (Try.f32.body.bind fun code => compC Try.prog Try.f32.ntmps code c_rect_Has) = some c_rect_Has.bare := by kernel_rfl
def r_rect_Has : List R := [.t 6]
theorem spo_rect_Has {ds : List D} {d : D} (hn : Nat.ble ds.length 37 = true) (h : run TSpM gtab 0 c_rect_Has (retK r_rect_Has (· = d)) ⟨env0 0 ds, []⟩) : TSp 32 ds d := Sp_of mixed c_rect_Has r_rect_Has (fn := Try.f32) (by kernel_rfl) (by kernel_rfl) comp_rect_Has (by kernel_rfl) hn h
theorem spm_rect_Has {ds : List D} {d : D} {bx bx' : List Ent} (hn : Nat.ble ds.length 37 = true) (h : run TSpM gtab (sizeE bx) c_rect_Has (retG r_rect_Has (fun d1 bx1 => Rt (sizeE bx) bx1 d1 d bx')) ⟨env0 0 ds, bx⟩) : TSpM 32 ds bx d bx' := SpM_of mixed c_rect_Has r_rect_Has (fn := Try.f32) (by kernel_rfl) (by kernel_rfl) comp_rect_Has (by kernel_rfl) hn h
/-- glazier/glazierref12.Has -/
def c_ref12_Has : C := .seq (.reg false [
  ⟨(some 3), none, .box true (.t 0), none⟩,
  ⟨(some 6), none, .mv false (.c (.bool false)), none⟩] (some [1, 2, 3])) (
.seq (.reg false [
  ⟨(some 7), none, .ld (some 4) (.t 3), none⟩,
  ⟨(some 8), none, .call false 28 [(.t 7)], none⟩,
  ⟨none, none, .st (some 4) (.t 3) (.t 8), none⟩] (some [1, 2, 3])) (
.seq (.reg false [
  ⟨(some 9), none, .mv false (.t 1), none⟩,
  ⟨(some 10), none, .fld 0 (.t 3), none⟩,
  ⟨(some 11), none, .ld none (.t 10), none⟩,
  ⟨(some 12), none, .bin .geq .i64 (.t 9) (.t 11), none⟩,
  ⟨(some 13), none, .mv false (.t 12), none⟩,
  ⟨(some 14), some (13, true), .mv false (.t 1), none⟩,
  ⟨(some 15), some (13, true), .fld 0 (.t 3), none⟩,
  ⟨(some 16), some (13, true), .ld none (.t 15), none⟩,
  ⟨(some 17), some (13, true), .fld 2 (.t 3), none⟩,
  ⟨(some 18), some (13, true), .ld none (.t 17), none⟩,
  ⟨(some 19), some (13, true), .bin .add .i64 (.t 16) (.t 18), none⟩,
  ⟨(some 20), some (13, true), .bin .lss .i64 (.t 14) (.t 19), none⟩,
  ⟨(some 21), none, .pick (.t 13) (.t 20) (.c (.bool false)), none⟩,
  ⟨(some 22), none, .mv false (.t 21), none⟩,
  ⟨(some 23), some (22, true), .mv false (.t 2), none⟩,
  ⟨(some 24), some (22, true), .fld 1 (.t 3), none⟩,
  ⟨(some 25), some (22, true), .ld none (.t 24), none⟩,
  ⟨(some 26), some (22, true), .bin .geq .i64 (.t 23) (.t 25), none⟩,
  ⟨(some 27), none, .pick (.t 22) (.t 26) (.c (.bool false)), none⟩,
  ⟨(some 28), none, .mv false (.t 27), none⟩,
  ⟨(some 29), some (28, true), .mv false (.t 2), none⟩,
  ⟨(some 30), some (28, true), .fld 1 (.t 3), none⟩,
  ⟨(some 31), some (28, true), .ld none (.t 30), none⟩,
  ⟨(some 32), some (28, true), .fld 3 (.t 3), none⟩,
  ⟨(some 33), some (28, true), .ld none (.t 32), none⟩,
  ⟨(some 34), some (28, true), .bin .add .i64 (.t 31) (.t 33), none⟩,
  ⟨(some 35), some (28, true), .bin .lss .i64 (.t 29) (.t 34), none⟩,
  ⟨(some 36), none, .pick (.t 28) (.t 35) (.c (.bool false)), none⟩,
  ⟨(some 6), none, .mv false (.t 36), none⟩] (some [6])) (
.ret)))
set_option maxRecDepth 1000000 in
theorem comp_ref12_Has : (Try.f33.body.bind fun code => compC Try.prog Try.f33.ntmps code c_ref12_Has) = some c_ref12_Has.bare := by kernel_rfl
def r_ref12_Has : List R := [.t 6]
theorem spo_ref12_Has {ds : List D} {d : D} (hn : Nat.ble ds.length 37 = true) (h : run TSpM gtab 0 c_ref12_Has (retK r_ref12_Has (· = d)) ⟨env0 0 ds, []⟩) : TSp 33 ds d := Sp_of mixed c_ref12_Has r_ref12_Has (fn := Try.f33) (by kernel_rfl) (by kernel_rfl) comp_ref12_Has (by kernel_rfl) hn h
theorem spm_ref12_Has {ds : List D} {d : D} {bx bx' : List Ent} (hn : Nat.ble ds.length 37 = true) (h : run TSpM gtab (sizeE bx) c_ref12_Has (retG r_ref12_Has (fun d1 bx1 => Rt (sizeE bx) bx1 d1 d bx')) ⟨env0 0 ds, bx⟩) : TSpM 33 ds bx d bx' := SpM_of mixed c_ref12_Has r_ref12_Has (fn := Try.f33) (by kernel_rfl) (by kernel_rfl) comp_ref12_Has (by kernel_rfl) hn h
/-- glazier/rect.fits -/
def c_rect_fits : C := .seq (.reg false [
  ⟨(some 4), none, .mv false (.c (.bool false)), none⟩] (some [0, 1])) (
.seq (.reg false [
  ⟨(some 5), none, .mv false (.t 0), none⟩,
  ⟨(some 6), none, .bin .geq .i64 (.t 5) (.c (.int .i64 (-1048576))), none⟩,
  ⟨(some 7), none, .mv false (.t 6), none⟩,
  ⟨(some 8), some (7, true), .mv false (.t 1), none⟩,
  ⟨(some 9), some (7, true), .bin .geq .i64 (.t 8) (.c (.int .i64 1)), none⟩,
  ⟨(some 10), none, .pick (.t 7) (.t 9) (.c (.bool false)), none⟩,
  ⟨(some 11), none, .mv false (.t 10), none⟩,
  ⟨(some 12), some (11, true), .mv false (.t 1), none⟩,
  ⟨(some 13), some (11, true), .mv false (.t 0), none⟩,
  ⟨(some 14), some (11, true), .bin .sub .i64 (.c (.int .i64 1048576)) (.t 13), none⟩,
  ⟨(some 15), some (11, true), .bin .leq .i64 (.t 12) (.t 14), none⟩,
  ⟨(some 16), none, .pick (.t 11) (.t 15) (.c (.bool false)), none⟩,
  ⟨(some 4), none, .mv false (.t 16), none⟩] (some [4])) (
.ret))
set_option maxRecDepth 1000000 in
theorem comp_rect_fits : (Try.f34.body.bind fun code => compC Try.prog Try.f34.ntmps code c_rect_fits) = some c_rect_fits.bare := by kernel_rfl
def r_rect_fits : List R := [.t 4]
theorem spo_rect_fits {ds : List D} {d : D} (hn : Nat.ble ds.length 17 = true) (h : run TSpM gtab 0 c_rect_fits (retK r_rect_fits (· = d)) ⟨env0 0 ds, []⟩) : TSp 34 ds d := Sp_of mixed c_rect_fits r_rect_fits (fn := Try.f34) (by kernel_rfl) (by kernel_rfl) comp_rect_fits (by kernel_rfl) hn h
theorem spm_rect_fits {ds : List D} {d : D} {bx bx' : List Ent} (hn : Nat.ble ds.length 17 = true) (h : run TSpM gtab (sizeE bx) c_rect_fits (retG r_rect_fits (fun d1 bx1 => Rt (sizeE bx) bx1 d1 d bx')) ⟨env0 0 ds, bx⟩) : TSpM 34 ds bx d bx' := SpM_of mixed c_rect_fits r_rect_fits (fn := Try.f34) (by kernel_rfl) (by kernel_rfl) comp_rect_fits (by kernel_rfl) hn h
/-- glazier/rect.right -/
def c_rect_right : C := .seq (.reg false [
  ⟨(some 1), none, .box true (.t 0), none⟩,
  ⟨(some 2), none, .alloc [(.int .i64 0), (.int .i64 0), (.int .i64 0), (.int .i64 0)], none⟩] (some [1, 2])) (
.seq (.seq (.reg false [
  ⟨(some 3), none, .ld (some 4) (.t 1), none⟩,
  ⟨(some 4), none, .call false 24 [(.t 3)], none⟩,
  ⟨(some 5), none, .bin .neq .i64 (.t 4) (.c (.int .i64 0)), none⟩] (some [1, 2, 5])) (
.ite (.t 5) (
  .seq (.reg false [
    ⟨(some 6), none, .bld [(.int .i64 0), (.int .i64 0), (.int .i64 0), (.int .i64 0)] [], none⟩,
    ⟨none, none, .st (some 4) (.t 2) (.t 6), none⟩] (some [2])) (
  .ret)) (
  .skip))) (
.seq (.reg false [
  ⟨(some 7), none, .ld (some 4) (.t 1), none⟩,
  ⟨none, none, .st (some 4) (.t 2) (.t 7), none⟩] (some [2])) (
.ret)))
set_option maxRecDepth 1000000 in
theorem comp_rect_right : (Try.f35.body.bind fun code => compC Try.prog Try.f35.ntmps code c_rect_right) = some c_rect_right.bare := by kernel_rfl
def r_rect_right : List R := [.cell 2 (some 4)]
theorem spo_rect_right {ds : List D} {d : D} (hn : Nat.ble ds.length 8 = true) (h : run TSpM gtab 0 c_rect_right (retK r_rect_right (· = d)) ⟨env0 0 ds, []⟩) : TSp 35 ds d := Sp_of mixed c_rect_right r_rect_right (fn := Try.f35) (by kernel_rfl) (by kernel_rfl) comp_rect_right (by kernel_rfl) hn h
theorem spm_rect_right {ds : List D} {d : D} {bx bx' : List Ent} (hn : Nat.ble ds.length 8 = true) (h : run TSpM gtab (sizeE bx) c_rect_right (retG r_rect_right (fun d1 bx1 => Rt (sizeE bx) bx1 d1 d bx')) ⟨env0 0 ds, bx⟩) : TSpM 35 ds bx d bx' := SpM_of mixed c_rect_right r_rect_right (fn := Try.f35) (by kernel_rfl) (by kernel_rfl) comp_rect_right (by kernel_rfl) hn h
/-- glazier/layout.leasts$1 -/
def c_layout_leasts_1 : C := .seq (.reg false [
  ⟨(some 12), none, .ld none (.t 1), none⟩,
  ⟨(some 13), none, .mv false (.t 0), none⟩,
  ⟨(some 14), none, .ixs 6 (.t 12) (.t 13), none⟩,
  ⟨(some 15), none, .ld (some 6) (.t 14), none⟩,
  ⟨(some 5), none, .alloc [(.bool false), (.int .i64 0), (.int .i64 0), (.int .i64 0), (.int .i64 0), (.ls 1 [])], none⟩,
  ⟨none, none, .st (some 6) (.t 5) (.t 15), none⟩] (some [0, 2, 3, 5])) (
.seq (.reg false [
  ⟨(some 16), none, .ld (some 6) (.t 5), none⟩,
  ⟨(some 17), none, .call false 37 [(.t 16)], none⟩,
  ⟨(some 6), none, .alloc [(.int .i64 0), (.int .i64 0)], none⟩,
  ⟨none, none, .st (some 2) (.t 6) (.t 17), none⟩] (some [0, 2, 3, 5, 6])) (
.seq (.reg false [
  ⟨(some 18), none, .ld (some 6) (.t 5), none⟩,
  ⟨(some 19), none, .call false 38 [(.t 18)], none⟩,
  ⟨(some 7), none, .mv false (.t 19), none⟩] (some [0, 2, 3, 5, 6, 7])) (
.seq (.seq (.reg false [
  ⟨(some 20), none, .fld 5 (.t 5), none⟩,
  ⟨(some 21), none, .ld none (.t 20), none⟩,
  ⟨(some 22), none, .len false (.t 21), none⟩,
  ⟨(some 23), none, .mv false (.c (.int .i64 0)), none⟩] (some [0, 2, 3, 5, 6, 7, 21, 22, 23])) (
.blk 0 (
  .loop (
    .seq (.reg false [
      ⟨(some 24), none, .bin .lss .i64 (.t 23) (.t 22), none⟩] (some [0, 2, 3, 5, 6, 7, 21, 22, 23, 24])) (
    .seq (.ite (.t 24) (
      .skip) (
      .exit 0)) (
    .seq (.blk 1 (
      .seq (.reg false [
        ⟨(some 25), none, .ixs 1 (.t 21) (.t 23), none⟩,
        ⟨(some 26), none, .ld none (.t 25), none⟩,
        ⟨(some 9), none, .mv false (.t 26), none⟩] (some [0, 2, 3, 5, 6, 7, 9, 21, 22, 23])) (
      .seq (.reg false [
        ⟨(some 27), none, .ld none (.t 2), none⟩,
        ⟨(some 28), none, .mv false (.t 9), none⟩,
        ⟨(some 29), none, .callv true (.t 27) [(.t 28)], none⟩] (some [0, 2, 3, 5, 6, 7, 9, 21, 22, 23])) (
      .seq (.reg true [
        ⟨(some 31), none, .ld (some 6) (.t 5), none⟩,
        ⟨(some 32), none, .ld none (.t 3), none⟩,
        ⟨(some 33), none, .mv false (.t 9), none⟩,
        ⟨(some 34), none, .ixs 4 (.t 32) (.t 33), none⟩,
        ⟨(some 35), none, .fld 2 (.t 34), none⟩,
        ⟨(some 36), none, .ld none (.t 35), none⟩,
        ⟨(some 37), none, .ld none (.t 3), none⟩,
        ⟨(some 38), none, .mv false (.t 9), none⟩,
        ⟨(some 39), none, .ixs 4 (.t 37) (.t 38), none⟩,
        ⟨(some 40), none, .fld 3 (.t 39), none⟩,
        ⟨(some 41), none, .ld none (.t 40), none⟩,
        ⟨(some 42), none, .call false 39 [(.t 31), (.t 36), (.t 41)], none⟩,
        ⟨(some 30), none, .mv false (.t 42), none⟩,
        ⟨(some 43), none, .ext (.t 30) 0, none⟩,
        ⟨(some 44), none, .ext (.t 30) 1, none⟩,
        ⟨(some 10), none, .mv false (.t 43), none⟩,
        ⟨(some 11), none, .mv false (.t 44), none⟩] (some [0, 2, 3, 5, 6, 7, 10, 11, 21, 22, 23])) (
      .seq (.reg false [
        ⟨(some 45), none, .mv false (.t 7), none⟩,
        ⟨(some 46), none, .mv false (.t 10), none⟩,
        ⟨(some 47), none, .bin .add .i64 (.t 45) (.t 46), none⟩,
        ⟨(some 7), none, .mv false (.t 47), none⟩] (some [0, 2, 3, 5, 6, 7, 11, 21, 22, 23])) (
      .reg false [
        ⟨(some 48), none, .fld 1 (.t 6), none⟩,
        ⟨(some 49), none, .ld none (.t 48), none⟩,
        ⟨(some 50), none, .mv false (.t 11), none⟩,
        ⟨(some 51), none, .mx (.t 49) (.t 50), none⟩,
        ⟨(some 52), none, .fld 1 (.t 6), none⟩,
        ⟨none, none, .st none (.t 52) (.t 51), none⟩] (some [0, 2, 3, 5, 6, 7, 21, 22, 23]))))))) (
    .reg false [
      ⟨(some 53), none, .bin .add .i64 (.t 23) (.c (.int .i64 1)), none⟩,
      ⟨(some 23), none, .mv false (.t 53), none⟩] (some [0, 2, 3, 5, 6, 7, 21, 22, 23])))))))) (
.seq (.reg false [
  ⟨(some 54), none, .fld 0 (.t 6), none⟩,
  ⟨(some 55), none, .ld none (.t 54), none⟩,
  ⟨(some 56), none, .mv false (.t 7), none⟩,
  ⟨(some 57), none, .mx (.t 55) (.t 56), none⟩,
  ⟨(some 58), none, .fld 0 (.t 6), none⟩,
  ⟨none, none, .st none (.t 58) (.t 57), none⟩] (some [0, 3, 5, 6])) (
.reg true [
  ⟨(some 60), none, .ld none (.t 3), none⟩,
  ⟨(some 61), none, .mv false (.t 0), none⟩,
  ⟨(some 62), none, .ld none (.t 3), (some [2])⟩,
  ⟨(some 63), none, .mv false (.t 0), none⟩,
  ⟨(some 64), none, .ld (some 6) (.t 5), none⟩,
  ⟨(some 65), none, .fld 0 (.t 6), none⟩,
  ⟨(some 66), none, .ld none (.t 65), none⟩,
  ⟨(some 67), none, .fld 1 (.t 6), none⟩,
  ⟨(some 68), none, .ld none (.t 67), none⟩,
  ⟨(some 69), none, .call false 39 [(.t 64), (.t 66), (.t 68)], none⟩,
  ⟨(some 59), none, .mv false (.t 69), none⟩,
  ⟨(some 70), none, .ext (.t 59) 0, none⟩,
  ⟨(some 71), none, .ext (.t 59) 1, none⟩,
  ⟨(some 72), none, .ixs 4 (.t 60) (.t 61), none⟩,
  ⟨(some 73), none, .fld 2 (.t 72), none⟩,
  ⟨none, none, .st none (.t 73) (.t 70), (some [3])⟩,
  ⟨(some 74), none, .ixs 4 (.t 62) (.t 63), none⟩,
  ⟨(some 75), none, .fld 3 (.t 74), none⟩,
  ⟨none, none, .st none (.t 75) (.t 71), none⟩] (some []))))))
set_option maxRecDepth 1000000 in
theorem comp_layout_leasts_1 : (Try.f36.body.bind fun code => compC Try.prog Try.f36.ntmps code c_layout_leasts_1) = some c_layout_leasts_1.bare := by kernel_rfl
def r_layout_leasts_1 : List R := []
theorem spo_layout_leasts_1 {ds : List D} {d : D} (hn : Nat.ble ds.length 76 = true) (h : run TSpM gtab 0 c_layout_leasts_1 (retK r_layout_leasts_1 (· = d)) ⟨env0 0 ds, []⟩) : TSp 36 ds d := Sp_of mixed c_layout_leasts_1 r_layout_leasts_1 (fn := Try.f36) (by kernel_rfl) (by kernel_rfl) comp_layout_leasts_1 (by kernel_rfl) hn h
theorem spm_layout_leasts_1 {ds : List D} {d : D} {bx bx' : List Ent} (hn : Nat.ble ds.length 76 = true) (h : run TSpM gtab (sizeE bx) c_layout_leasts_1 (retG r_layout_leasts_1 (fun d1 bx1 => Rt (sizeE bx) bx1 d1 d bx')) ⟨env0 0 ds, bx⟩) : TSpM 36 ds bx d bx' := SpM_of mixed c_layout_leasts_1 r_layout_leasts_1 (fn := Try.f36) (by kernel_rfl) (by kernel_rfl) comp_layout_leasts_1 (by kernel_rfl) hn h
/-- (glazier/layout.Node).own -/
def c_layout_Node_own : C := .seq (.reg false [
  ⟨(some 1), none, .box true (.t 0), none⟩,
  ⟨(some 2), none, .alloc [(.int .i64 0), (.int .i64 0)], none⟩] (some [1, 2])) (
.seq (.reg false [
  ⟨(some 3), none, .mv false (.c (.fn 41 [])), none⟩] (some [1, 2, 3])) (
.seq (.seq (.reg false [
  ⟨(some 4), none, .fld 0 (.t 1), none⟩,
  ⟨(some 5), none, .ld none (.t 4), none⟩] (some [1, 2, 3, 5])) (
.ite (.t 5) (
  .reg false [
    ⟨(some 3), none, .mv false (.c (.fn 42 [])), none⟩] (some [1, 2, 3])) (
  .skip))) (
.seq (.reg false [
  ⟨(some 6), none, .mv false (.t 3), none⟩,
  ⟨(some 7), none, .ld (some 6) (.t 1), none⟩,
  ⟨(some 8), none, .callv false (.t 6) [(.t 7)], none⟩,
  ⟨none, none, .st (some 2) (.t 2) (.t 8), none⟩] (some [2])) (
.ret))))
set_option maxRecDepth 1000000 in
theorem comp_layout_Node_own : (Try.f37.body.bind fun code => compC Try.prog Try.f37.ntmps code c_layout_Node_own) = some c_layout_Node_own.bare := by kernel_rfl
def r_layout_Node_own : List R := [.cell 2 (some 2)]
theorem spo_layout_Node_own {ds : List D} {d : D} (hn : Nat.ble ds.length 9 = true) (h : run TSpM gtab 0 c_layout_Node_own (retK r_layout_Node_own (· = d)) ⟨env0 0 ds, []⟩) : TSp 37 ds d := Sp_of mixed c_layout_Node_own r_layout_Node_own (fn := Try.f37) (by kernel_rfl) (by kernel_rfl) comp_layout_Node_own (by kernel_rfl) hn h
theorem spm_layout_Node_own {ds : List D} {d : D} {bx bx' : List Ent} (hn : Nat.ble ds.length 9 = true) (h : run TSpM gtab (sizeE bx) c_layout_Node_own (retG r_layout_Node_own (fun d1 bx1 => Rt (sizeE bx) bx1 d1 d bx')) ⟨env0 0 ds, bx⟩) : TSpM 37 ds bx d bx' := SpM_of mixed c_layout_Node_own r_layout_Node_own (fn := Try.f37) (by kernel_rfl) (by kernel_rfl) comp_layout_Node_own (by kernel_rfl) hn h
/-- (glazier/layout.Node).gaps -/
def c_layout_Node_gaps : C := .seq (.reg false [
  ⟨(some 1), none, .box true (.t 0), none⟩,
  ⟨(some 2), none, .mv false (.c (.int .i64 0)), none⟩] (some [1])) (
.seq (.seq (.reg false [
  ⟨(some 3), none, .fld 5 (.t 1), none⟩,
  ⟨(some 4), none, .ld none (.t 3), none⟩,
  ⟨(some 5), none, .len false (.t 4), none⟩,
  ⟨(some 6), none, .bin .lss .i64 (.t 5) (.c (.int .i64 2)), none⟩] (some [1, 6])) (
.ite (.t 6) (
  .seq (.reg false [
    ⟨(some 2), none, .mv false (.c (.int .i64 0)), none⟩] (some [2])) (
  .ret)) (
  .skip))) (
.seq (.reg false [
  ⟨(some 7), none, .fld 1 (.t 1), none⟩,
  ⟨(some 8), none, .ld none (.t 7), none⟩,
  ⟨(some 9), none, .fld 5 (.t 1), none⟩,
  ⟨(some 10), none, .ld none (.t 9), none⟩,
  ⟨(some 11), none, .len false (.t 10), none⟩,
  ⟨(some 12), none, .bin .sub .i64 (.t 11) (.c (.int .i64 1)), none⟩,
  ⟨(some 13), none, .bin .mul .i64 (.t 8) (.t 12), none⟩,
  ⟨(some 2), none, .mv false (.t 13), none⟩] (some [2])) (
.ret)))
set_option maxRecDepth 1000000 in
theorem comp_layout_Node_gaps : (Try.f38.body.bind fun code => compC Try.prog Try.f38.ntmps code c_layout_Node_gaps) = some c_layout_Node_gaps.bare := by kernel_rfl
def r_layout_Node_gaps : List R := [.t 2]
theorem spo_layout_Node_gaps {ds : List D} {d : D} (hn : Nat.ble ds.length 14 = true) (h : run TSpM gtab 0 c_layout_Node_gaps (retK r_layout_Node_gaps (· = d)) ⟨env0 0 ds, []⟩) : TSp 38 ds d := Sp_of mixed c_layout_Node_gaps r_layout_Node_gaps (fn := Try.f38) (by kernel_rfl) (by kernel_rfl) comp_layout_Node_gaps (by kernel_rfl) hn h
theorem spm_layout_Node_gaps {ds : List D} {d : D} {bx bx' : List Ent} (hn : Nat.ble ds.length 14 = true) (h : run TSpM gtab (sizeE bx) c_layout_Node_gaps (retG r_layout_Node_gaps (fun d1 bx1 => Rt (sizeE bx) bx1 d1 d bx')) ⟨env0 0 ds, bx⟩) : TSpM 38 ds bx d bx' := SpM_of mixed c_layout_Node_gaps r_layout_Node_gaps (fn := Try.f38) (by kernel_rfl) (by kernel_rfl) comp_layout_Node_gaps (by kernel_rfl) hn h
/-- (glazier/layout.Node).turned -/
def c_layout_Node_turned : C := .seq (.reg false [
  ⟨(some 3), none, .box true (.t 0), none⟩,
  ⟨(some 6), none, .mv false (.c (.int .i64 0)), none⟩,
  ⟨(some 7), none, .mv false (.c (.int .i64 0)), none⟩] (some [1, 2, 3])) (
.seq (.seq (.reg false [
  ⟨(some 8), none, .fld 0 (.t 3), none⟩,
  ⟨(some 9), none, .ld none (.t 8), none⟩] (some [1, 2, 9])) (
.ite (.t 9) (
  .seq (.reg false [
    ⟨(some 10), none, .mv false (.t 2), none⟩,
    ⟨(some 11), none, .mv false (.t 1), none⟩,
    ⟨(some 6), none, .mv false (.t 10), none⟩,
    ⟨(some 7), none, .mv false (.t 11), none⟩] (some [6, 7])) (
  .ret)) (
  .skip))) (
.seq (.reg false [
  ⟨(some 12), none, .mv false (.t 1), none⟩,
  ⟨(some 13), none, .mv false (.t 2), none⟩,
  ⟨(some 6), none, .mv false (.t 12), none⟩,
  ⟨(some 7), none, .mv false (.t 13), none⟩] (some [6, 7])) (
.ret)))
set_option maxRecDepth 1000000 in
theorem comp_layout_Node_turned : (Try.f39.body.bind fun code => compC Try.prog Try.f39.ntmps code c_layout_Node_turned) = some c_layout_Node_turned.bare := by kernel_rfl
def r_layout_Node_turned : List R := [.t 6, .t 7]
theorem spo_layout_Node_turned {ds : List D} {d : D} (hn : Nat.ble ds.length 14 = true) (h : run TSpM gtab 0 c_layout_Node_turned (retK r_layout_Node_turned (· = d)) ⟨env0 0 ds, []⟩) : TSp 39 ds d := Sp_of mixed c_layout_Node_turned r_layout_Node_turned (fn := Try.f39) (by kernel_rfl) (by kernel_rfl) comp_layout_Node_turned (by kernel_rfl) hn h
theorem spm_layout_Node_turned {ds : List D} {d : D} {bx bx' : List Ent} (hn : Nat.ble ds.length 14 = true) (h : run TSpM gtab (sizeE bx) c_layout_Node_turned (retG r_layout_Node_turned (fun d1 bx1 => Rt (sizeE bx) bx1 d1 d bx')) ⟨env0 0 ds, bx⟩) : TSpM 39 ds bx d bx' := SpM_of mixed c_layout_Node_turned r_layout_Node_turned (fn := Try.f39) (by kernel_rfl) (by kernel_rfl) comp_layout_Node_turned (by kernel_rfl) hn h
/-- glazier/glazierref12.Right -/
def c_ref12_Right : C := .seq (.reg false [
  ⟨(some 1), none, .box true (.t 0), none⟩,
  ⟨(some 2), none, .mv false (.c (.bool false)), none⟩] (some [1])) (
.seq (.seq (.reg false [
  ⟨(some 3), none, .ld (some 4) (.t 1), none⟩,
  ⟨(some 4), none, .bld [(.int .i64 0), (.int .i64 0), (.int .i64 0), (.int .i64 0)] [], none⟩,
  ⟨(some 5), none, .eqS false [.i .i64, .i .i64, .i .i64, .i .i64] (.t 3) (.t 4), none⟩] (some [1, 5])) (
.ite (.t 5) (
  .seq (.reg false [
    ⟨(some 2), none, .mv false (.c (.bool true)), none⟩] (some [2])) (
  .ret)) (
  .skip))) (
.seq (.reg false [
  ⟨(some 6), none, .fld 2 (.t 1), none⟩,
  ⟨(some 7), none, .ld none (.t 6), none⟩,
  ⟨(some 8), none, .bin .geq .i64 (.t 7) (.c (.int .i64 1)), none⟩,
  ⟨(some 9), none, .mv false (.t 8), none⟩,
  ⟨(some 10), some (9, true), .fld 3 (.t 1), none⟩,
  ⟨(some 11), some (9, true), .ld none (.t 10), none⟩,
  ⟨(some 12), some (9, true), .bin .geq .i64 (.t 11) (.c (.int .i64 1)), none⟩,
  ⟨(some 13), none, .pick (.t 9) (.t 12) (.c (.bool false)), none⟩,
  ⟨(some 14), none, .mv false (.t 13), none⟩,
  ⟨(some 15), some (14, true), .fld 0 (.t 1), none⟩,
  ⟨(some 16), some (14, true), .ld none (.t 15), none⟩,
  ⟨(some 17), some (14, true), .bin .geq .i64 (.t 16) (.c (.int .i64 (-1048576))), none⟩,
  ⟨(some 18), none, .pick (.t 14) (.t 17) (.c (.bool false)), none⟩,
  ⟨(some 19), none, .mv false (.t 18), none⟩,
  ⟨(some 20), some (19, true), .fld 1 (.t 1), none⟩,
  ⟨(some 21), some (19, true), .ld none (.t 20), none⟩,
  ⟨(some 22), some (19, true), .bin .geq .i64 (.t 21) (.c (.int .i64 (-1048576))), none⟩,
  ⟨(some 23), none, .pick (.t 19) (.t 22) (.c (.bool false)), none⟩,
  ⟨(some 24), none, .mv false (.t 23), none⟩,
  ⟨(some 25), some (24, true), .fld 0 (.t 1), none⟩,
  ⟨(some 26), some (24, true), .ld none (.t 25), none⟩,
  ⟨(some 27), some (24, true), .bin .leq .i64 (.t 26) (.c (.int .i64 1048576)), none⟩,
  ⟨(some 28), none, .pick (.t 24) (.t 27) (.c (.bool false)), none⟩,
  ⟨(some 29), none, .mv false (.t 28), none⟩,
  ⟨(some 30), some (29, true), .fld 1 (.t 1), none⟩,
  ⟨(some 31), some (29, true), .ld none (.t 30), none⟩,
  ⟨(some 32), some (29, true), .bin .leq .i64 (.t 31) (.c (.int .i64 1048576)), none⟩,
  ⟨(some 33), none, .pick (.t 29) (.t 32) (.c (.bool false)), none⟩,
  ⟨(some 34), none, .mv false (.t 33), none⟩,
  ⟨(some 35), some (34, true), .fld 2 (.t 1), none⟩,
  ⟨(some 36), some (34, true), .ld none (.t 35), none⟩,
  ⟨(some 37), some (34, true), .fld 0 (.t 1), none⟩,
  ⟨(some 38), some (34, true), .ld none (.t 37), none⟩,
  ⟨(some 39), some (34, true), .bin .sub .i64 (.c (.int .i64 1048576)) (.t 38), none⟩,
  ⟨(some 40), some (34, true), .bin .leq .i64 (.t 36) (.t 39), none⟩,
  ⟨(some 41), none, .pick (.t 34) (.t 40) (.c (.bool false)), none⟩,
  ⟨(some 42), none, .mv false (.t 41), none⟩,
  ⟨(some 43), some (42, true), .fld 3 (.t 1), none⟩,
  ⟨(some 44), some (42, true), .ld none (.t 43), none⟩,
  ⟨(some 45), some (42, true), .fld 1 (.t 1), none⟩,
  ⟨(some 46), some (42, true), .ld none (.t 45), none⟩,
  ⟨(some 47), some (42, true), .bin .sub .i64 (.c (.int .i64 1048576)) (.t 46), none⟩,
  ⟨(some 48), some (42, true), .bin .leq .i64 (.t 44) (.t 47), none⟩,
  ⟨(some 49), none, .pick (.t 42) (.t 48) (.c (.bool false)), none⟩,
  ⟨(some 2), none, .mv false (.t 49), none⟩] (some [2])) (
.ret)))
set_option maxRecDepth 1000000 in
theorem comp_ref12_Right : (Try.f40.body.bind fun code => compC Try.prog Try.f40.ntmps code c_ref12_Right) = some c_ref12_Right.bare := by kernel_rfl
def r_ref12_Right : List R := [.t 2]
theorem spo_ref12_Right {ds : List D} {d : D} (hn : Nat.ble ds.length 50 = true) (h : run TSpM gtab 0 c_ref12_Right (retK r_ref12_Right (· = d)) ⟨env0 0 ds, []⟩) : TSp 40 ds d := Sp_of mixed c_ref12_Right r_ref12_Right (fn := Try.f40) (by kernel_rfl) (by kernel_rfl) comp_ref12_Right (by kernel_rfl) hn h
theorem spm_ref12_Right {ds : List D} {d : D} {bx bx' : List Ent} (hn : Nat.ble ds.length 50 = true) (h : run TSpM gtab (sizeE bx) c_ref12_Right (retG r_ref12_Right (fun d1 bx1 => Rt (sizeE bx) bx1 d1 d bx')) ⟨env0 0 ds, bx⟩) : TSpM 40 ds bx d bx' := SpM_of mixed c_ref12_Right r_ref12_Right (fn := Try.f40) (by kernel_rfl) (by kernel_rfl) comp_ref12_Right (by kernel_rfl) hn h
/-- (glazier/layout.Node).across -/
def c_layout_Node_across : C := .seq (.reg false [
  ⟨(some 1), none, .box true (.t 0), none⟩,
  ⟨(some 2), none, .alloc [(.int .i64 0), (.int .i64 0)], none⟩] (some [1, 2])) (
.seq (.reg false [
  ⟨(some 3), none, .fld 2 (.t 1), none⟩,
  ⟨(some 4), none, .ld none (.t 3), none⟩,
  ⟨(some 5), none, .fld 3 (.t 1), none⟩,
  ⟨(some 6), none, .ld none (.t 5), none⟩,
  ⟨(some 7), none, .bld [(.int .i64 0), (.int .i64 0)] [(0, none, (.t 4)), (1, none, (.t 6))], none⟩,
  ⟨none, none, .st (some 2) (.t 2) (.t 7), none⟩] (some [2])) (
.ret))
set_option maxRecDepth 1000000 in
theorem comp_layout_Node_across : (Try.f41.body.bind fun code => compC Try.prog Try.f41.ntmps code c_layout_Node_across) = some c_layout_Node_across.bare := by kernel_rfl
def r_layout_Node_across : List R := [.cell 2 (some 2)]
theorem spo_layout_Node_across {ds : List D} {d : D} (hn : Nat.ble ds.length 8 = true) (h : run TSpM gtab 0 c_layout_Node_across (retK r_layout_Node_across (· = d)) ⟨env0 0 ds, []⟩) : TSp 41 ds d := Sp_of mixed c_layout_Node_across r_layout_Node_across (fn := Try.f41) (by kernel_rfl) (by kernel_rfl) comp_layout_Node_across (by kernel_rfl) hn h
theorem spm_layout_Node_across {ds : List D} {d : D} {bx bx' : List Ent} (hn : Nat.ble ds.length 8 = true) (h : run TSpM gtab (sizeE bx) c_layout_Node_across (retG r_layout_Node_across (fun d1 bx1 => Rt (sizeE bx) bx1 d1 d bx')) ⟨env0 0 ds, bx⟩) : TSpM 41 ds bx d bx' := SpM_of mixed c_layout_Node_across r_layout_Node_across (fn := Try.f41) (by kernel_rfl) (by kernel_rfl) comp_layout_Node_across (by kernel_rfl) hn h
/-- (glazier/layout.Node).down -/
def c_layout_Node_down : C := .seq (.reg false [
  ⟨(some 1), none, .box true (.t 0), none⟩,
  ⟨(some 2), none, .alloc [(.int .i64 0), (.int .i64 0)], none⟩] (some [1, 2])) (
.seq (.reg false [
  ⟨(some 3), none, .fld 3 (.t 1), none⟩,
  ⟨(some 4), none, .ld none (.t 3), none⟩,
  ⟨(some 5), none, .fld 2 (.t 1), none⟩,
  ⟨(some 6), none, .ld none (.t 5), none⟩,
  ⟨(some 7), none, .bld [(.int .i64 0), (.int .i64 0)] [(0, none, (.t 4)), (1, none, (.t 6))], none⟩,
  ⟨none, none, .st (some 2) (.t 2) (.t 7), none⟩] (some [2])) (
.ret))
set_option maxRecDepth 1000000 in
theorem comp_layout_Node_down : (Try.f42.body.bind fun code => compC Try.prog Try.f42.ntmps code c_layout_Node_down) = some c_layout_Node_down.bare := by kernel_rfl
def r_layout_Node_down : List R := [.cell 2 (some 2)]
theorem spo_layout_Node_down {ds : List D} {d : D} (hn : Nat.ble ds.length 8 = true) (h : run TSpM gtab 0 c_layout_Node_down (retK r_layout_Node_down (· = d)) ⟨env0 0 ds, []⟩) : TSp 42 ds d := Sp_of mixed c_layout_Node_down r_layout_Node_down (fn := Try.f42) (by kernel_rfl) (by kernel_rfl) comp_layout_Node_down (by kernel_rfl) hn h
theorem spm_layout_Node_down {ds : List D} {d : D} {bx bx' : List Ent} (hn : Nat.ble ds.length 8 = true) (h : run TSpM gtab (sizeE bx) c_layout_Node_down (retG r_layout_Node_down (fun d1 bx1 => Rt (sizeE bx) bx1 d1 d bx')) ⟨env0 0 ds, bx⟩) : TSpM 42 ds bx d bx' := SpM_of mixed c_layout_Node_down r_layout_Node_down (fn := Try.f42) (by kernel_rfl) (by kernel_rfl) comp_layout_Node_down (by kernel_rfl) hn h
end Go.AM
