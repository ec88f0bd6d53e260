/- The functions' code, as the little machine has it (printed by Show.lean). -/
import Derived.Test.YtnhogggpchcbjaaA20
import Derived.Test.YtnhogggpchcbjaaProg
set_option linter.all false
namespace Go.AM
open Go Go.Proofs
theorem mixed : Try.prog.follows .mixedOrders = true := by kernel_rfl
def gtab : Nat → Option (List D) := fun _ => none
abbrev TSp := Sp Try.prog gtab
abbrev TSpM := SpM Try.prog gtab
/-- glazier/glazierlaw54.BufferNew -/
def c_law54_BufferNew : C := .seq (.reg false [
  ⟨(some 2), none, .mv false (.c (.bool false)), none⟩] (some [0])) (
.seq (.seq (.reg false [
  ⟨(some 5), none, .mv false (.t 0), none⟩,
  ⟨(some 6), none, .len true (.t 5), none⟩,
  ⟨(some 7), none, .bin .gtr .i64 (.t 6) (.c (.int .i64 300)), none⟩] (some [0, 7])) (
.ite (.t 7) (
  .seq (.reg false [
    ⟨(some 8), none, .call false 10 [], none⟩,
    ⟨(some 2), none, .mv false (.t 8), none⟩] (some [2])) (
  .ret)) (
  .skip))) (
.seq (.reg false [
  ⟨(some 10), none, .mv false (.t 0), none⟩,
  ⟨(some 11), none, .call false 11 [(.t 10)], none⟩,
  ⟨(some 9), none, .mv false (.t 11), none⟩,
  ⟨(some 12), none, .ext (.t 9) 0, none⟩,
  ⟨(some 13), none, .ext (.t 9) 1, none⟩,
  ⟨(some 3), none, .alloc [(.ls 3 []), (.ls 3 []), (.str [])], none⟩,
  ⟨none, none, .st (some 3) (.t 3) (.t 12), none⟩,
  ⟨(some 4), none, .mv false (.t 13), none⟩] (some [0, 3, 4])) (
.seq (.seq (.reg false [
  ⟨(some 14), none, .mv false (.t 0), none⟩,
  ⟨(some 15), none, .call false 12 [(.t 14)], none⟩,
  ⟨(some 16), none, .not (.t 15), none⟩] (some [0, 3, 4, 16])) (
.ite (.t 16) (
  .seq (.reg false [
    ⟨(some 17), none, .mv false (.t 4), none⟩,
    ⟨(some 18), none, .bin .eql .i64 (.t 17) (.c (.int .i64 2)), none⟩,
    ⟨(some 19), none, .mv false (.t 18), none⟩,
    ⟨(some 20), some (19, true), .ld (some 3) (.t 3), none⟩,
    ⟨(some 21), some (19, true), .call false 13 [(.t 20)], none⟩,
    ⟨(some 22), some (19, true), .eqb false true (.t 21) (.c (.str [])), none⟩,
    ⟨(some 23), none, .pick (.t 19) (.t 22) (.c (.bool false)), none⟩,
    ⟨(some 24), none, .mv false (.t 23), none⟩,
    ⟨(some 25), some (24, true), .ld (some 3) (.t 3), none⟩,
    ⟨(some 26), some (24, true), .call false 14 [(.t 25)], none⟩,
    ⟨(some 27), some (24, true), .bin .eql .i64 (.t 26) (.c (.int .i64 0)), none⟩,
    ⟨(some 28), none, .pick (.t 24) (.t 27) (.c (.bool false)), none⟩,
    ⟨(some 29), none, .mv false (.t 28), none⟩,
    ⟨(some 30), some (29, true), .call false 10 [], none⟩,
    ⟨(some 31), none, .pick (.t 29) (.t 30) (.c (.bool false)), none⟩,
    ⟨(some 2), none, .mv false (.t 31), none⟩] (some [2])) (
  .ret)) (
  .skip))) (
.seq (.reg false [
  ⟨(some 32), none, .mv false (.t 4), none⟩,
  ⟨(some 33), none, .bin .eql .i64 (.t 32) (.c (.int .i64 0)), none⟩,
  ⟨(some 34), none, .mv false (.t 33), none⟩,
  ⟨(some 35), some (34, true), .ld (some 3) (.t 3), none⟩,
  ⟨(some 36), some (34, true), .call false 13 [(.t 35)], none⟩,
  ⟨(some 37), some (34, true), .mv false (.t 0), none⟩,
  ⟨(some 38), some (34, true), .eqb false true (.t 36) (.t 37), none⟩,
  ⟨(some 39), none, .pick (.t 34) (.t 38) (.c (.bool false)), none⟩,
  ⟨(some 40), none, .mv false (.t 39), none⟩,
  ⟨(some 41), some (40, true), .ld (some 3) (.t 3), none⟩,
  ⟨(some 42), some (40, true), .call false 14 [(.t 41)], none⟩,
  ⟨(some 43), some (40, true), .mv false (.t 0), none⟩,
  ⟨(some 44), some (40, true), .len true (.t 43), none⟩,
  ⟨(some 45), some (40, true), .bin .eql .i64 (.t 42) (.t 44), none⟩,
  ⟨(some 46), none, .pick (.t 40) (.t 45) (.c (.bool false)), none⟩,
  ⟨(some 47), none, .mv false (.t 46), none⟩,
  ⟨(some 48), some (47, true), .call false 10 [], none⟩,
  ⟨(some 49), none, .pick (.t 47) (.t 48) (.c (.bool false)), none⟩,
  ⟨(some 2), none, .mv false (.t 49), none⟩] (some [2])) (
.ret)))))
set_option maxRecDepth 1000000 in
theorem comp_law54_BufferNew : (Try.f3.body.bind fun code => compC Try.prog Try.f3.ntmps code c_law54_BufferNew) = some c_law54_BufferNew.bare := by kernel_rfl
def r_law54_BufferNew : List R := [.t 2]
theorem spo_law54_BufferNew {ds : List D} {d : D} (hn : Nat.ble ds.length 50 = true) (h : run TSpM gtab 0 c_law54_BufferNew (retK r_law54_BufferNew (· = d)) ⟨env0 0 ds, []⟩) : TSp 3 ds d := Sp_of mixed c_law54_BufferNew r_law54_BufferNew (fn := Try.f3) (by kernel_rfl) (by kernel_rfl) comp_law54_BufferNew (by kernel_rfl) hn h
theorem spm_law54_BufferNew {ds : List D} {d : D} {bx bx' : List Ent} (hn : Nat.ble ds.length 50 = true) (h : run TSpM gtab (sizeE bx) c_law54_BufferNew (retG r_law54_BufferNew (fun d1 bx1 => Rt (sizeE bx) bx1 d1 d bx')) ⟨env0 0 ds, bx⟩) : TSpM 3 ds bx d bx' := SpM_of mixed c_law54_BufferNew r_law54_BufferNew (fn := Try.f3) (by kernel_rfl) (by kernel_rfl) comp_law54_BufferNew (by kernel_rfl) hn h
/-- glazier/glazierlaw54.BufferUndoes -/
def c_law54_BufferUndoes : C := .seq (.reg false [
  ⟨(some 4), none, .mv false (.c (.bool false)), none⟩] (some [0, 1])) (
.seq (.seq (.reg false [
  ⟨(some 24), none, .mv false (.t 0), none⟩,
  ⟨(some 25), none, .mv false (.t 1), none⟩,
  ⟨(some 26), none, .call false 15 [(.t 24), (.t 25)], none⟩,
  ⟨(some 27), none, .not (.t 26), none⟩,
  ⟨(some 28), none, .mv false (.t 27), none⟩,
  ⟨(some 29), some (28, false), .mv false (.t 0), none⟩,
  ⟨(some 30), some (28, false), .call false 12 [(.t 29)], none⟩,
  ⟨(some 31), some (28, false), .not (.t 30), none⟩,
  ⟨(some 32), none, .pick (.t 28) (.c (.bool true)) (.t 31), none⟩] (some [0, 1, 32])) (
.ite (.t 32) (
  .seq (.reg false [
    ⟨(some 33), none, .call false 10 [], none⟩,
    ⟨(some 4), none, .mv false (.t 33), none⟩] (some [4])) (
  .ret)) (
  .skip))) (
.seq (.reg false [
  ⟨(some 35), none, .mv false (.t 0), none⟩,
  ⟨(some 36), none, .call false 11 [(.t 35)], none⟩,
  ⟨(some 34), none, .mv false (.t 36), none⟩,
  ⟨(some 37), none, .ext (.t 34) 0, none⟩,
  ⟨(some 38), none, .ext (.t 34) 1, none⟩,
  ⟨(some 5), none, .alloc [(.ls 3 []), (.ls 3 []), (.str [])], none⟩,
  ⟨none, none, .st (some 3) (.t 5) (.t 37), none⟩,
  ⟨(some 6), none, .mv false (.t 38), none⟩] (some [0, 1, 5, 6])) (
.seq (.seq (.reg false [
  ⟨(some 39), none, .mv false (.t 6), none⟩,
  ⟨(some 40), none, .bin .neq .i64 (.t 39) (.c (.int .i64 0)), none⟩] (some [0, 1, 5, 40])) (
.ite (.t 40) (
  .seq (.reg false [
    ⟨(some 4), none, .mv false (.c (.bool false)), none⟩] (some [4])) (
  .ret)) (
  .skip))) (
.seq (.reg false [
  ⟨(some 41), none, .mv false (.t 0), none⟩,
  ⟨(some 42), none, .bsl (some false) 9 1 none [(.t 41)], none⟩,
  ⟨(some 7), none, .mv false (.t 42), none⟩] (some [1, 5, 7])) (
.seq (.seq (.reg false [
  ⟨(some 43), none, .mv false (.t 1), none⟩,
  ⟨(some 44), none, .len false (.t 43), none⟩,
  ⟨(some 45), none, .mv false (.c (.int .i64 0)), none⟩] (some [5, 7, 43, 44, 45])) (
.blk 0 (
  .loop (
    .seq (.reg false [
      ⟨(some 46), none, .bin .lss .i64 (.t 45) (.t 44), none⟩] (some [5, 7, 43, 44, 45, 46])) (
    .seq (.ite (.t 46) (
      .skip) (
      .exit 0)) (
    .seq (.blk 1 (
      .seq (.reg false [
        ⟨(some 47), none, .ixs 4 (.t 43) (.t 45), none⟩,
        ⟨(some 48), none, .ld (some 4) (.t 47), none⟩,
        ⟨(some 9), none, .alloc [(.int .u8 0), (.int .i64 0), (.int .i64 0), (.str [])], none⟩,
        ⟨none, none, .st (some 4) (.t 9) (.t 48), none⟩] (some [5, 7, 9, 43, 44, 45])) (
      .seq (.seq (.reg false [
        ⟨(some 49), none, .fld 0 (.t 9), none⟩,
        ⟨(some 50), none, .ld none (.t 49), none⟩,
        ⟨(some 51), none, .bin .rem .u8 (.t 50) (.c (.int .u8 4)), none⟩,
        ⟨(some 52), none, .bin .gtr .u8 (.t 51) (.c (.int .u8 1)), none⟩] (some [5, 7, 9, 43, 44, 45, 52])) (
      .ite (.t 52) (
        .exit 1) (
        .skip))) (
      .seq (.reg false [
        ⟨(some 54), none, .ld (some 4) (.t 9), none⟩,
        ⟨(some 55), none, .ld (some 3) (.t 5), none⟩,
        ⟨(some 56), none, .call false 16 [(.t 54), (.t 55)], none⟩,
        ⟨(some 53), none, .mv false (.t 56), none⟩,
        ⟨(some 57), none, .ext (.t 53) 0, none⟩,
        ⟨(some 58), none, .ext (.t 53) 1, none⟩,
        ⟨(some 59), none, .ext (.t 53) 2, none⟩,
        ⟨(some 10), none, .alloc [(.ls 3 []), (.ls 3 []), (.str [])], none⟩,
        ⟨none, none, .st (some 3) (.t 10) (.t 57), none⟩,
        ⟨(some 11), none, .mv false (.t 58), none⟩,
        ⟨(some 12), none, .mv false (.t 59), none⟩] (some [5, 7, 10, 12, 43, 44, 45])) (
      .seq (.reg false [
        ⟨(some 60), none, .mv false (.t 12), none⟩] (some [5, 7, 10, 43, 44, 45, 60])) (
      .ite (.t 60) (
        .reg true [
          ⟨(some 61), none, .ld (some 3) (.t 10), (some [3])⟩,
          ⟨(some 62), none, .mv false (.t 7), none⟩,
          ⟨(some 63), none, .ld (some 3) (.t 10), none⟩,
          ⟨(some 64), none, .call false 13 [(.t 63)], none⟩,
          ⟨(some 65), none, .bsl none 9 1 none [(.t 64)], none⟩,
          ⟨(some 66), none, .app 9 1 16 (.t 62) (.t 65), (some [1])⟩,
          ⟨none, none, .st (some 3) (.t 5) (.t 61), none⟩,
          ⟨(some 7), none, .mv false (.t 66), none⟩] (some [5, 7, 43, 44, 45])) (
        .skip))))))) (
    .reg false [
      ⟨(some 67), none, .bin .add .i64 (.t 45) (.c (.int .i64 1)), none⟩,
      ⟨(some 45), none, .mv false (.t 67), none⟩] (some [5, 7, 43, 44, 45])))))))) (
.seq (.seq (.reg false [
  ⟨(some 68), none, .mv false (.t 7), none⟩,
  ⟨(some 69), none, .len false (.t 68), none⟩,
  ⟨(some 70), none, .bin .sub .i64 (.t 69) (.c (.int .i64 2)), none⟩,
  ⟨(some 13), none, .mv false (.t 70), none⟩] (some [5, 7, 13])) (
.blk 2 (
  .loop (
    .seq (.seq (.reg false [
      ⟨(some 71), none, .mv false (.t 13), none⟩,
      ⟨(some 72), none, .bin .geq .i64 (.t 71) (.c (.int .i64 0)), none⟩] (some [5, 7, 13, 72])) (
    .ite (.t 72) (
      .skip) (
      .exit 2))) (
    .seq (.blk 3 (
      .seq (.reg false [
        ⟨(some 76), none, .ld (some 3) (.t 5), none⟩,
        ⟨(some 77), none, .call false 17 [(.t 76)], none⟩,
        ⟨(some 75), none, .mv false (.t 77), none⟩,
        ⟨(some 78), none, .ext (.t 75) 0, none⟩,
        ⟨(some 79), none, .ext (.t 75) 1, none⟩,
        ⟨(some 14), none, .alloc [(.ls 3 []), (.ls 3 []), (.str [])], none⟩,
        ⟨none, none, .st (some 3) (.t 14) (.t 78), none⟩,
        ⟨(some 15), none, .mv false (.t 79), none⟩] (some [5, 7, 13, 14, 15])) (
      .seq (.seq (.reg true [
        ⟨(some 80), none, .mv false (.t 15), none⟩,
        ⟨(some 81), none, .not (.t 80), none⟩,
        ⟨(some 82), none, .mv false (.t 81), none⟩,
        ⟨(some 83), some (82, false), .ld (some 3) (.t 14), none⟩,
        ⟨(some 84), some (82, false), .call false 13 [(.t 83)], none⟩,
        ⟨(some 85), some (82, false), .mv false (.t 7), none⟩,
        ⟨(some 86), some (82, false), .mv false (.t 13), none⟩,
        ⟨(some 87), some (82, false), .ixs 1 (.t 85) (.t 86), none⟩,
        ⟨(some 88), some (82, false), .ld none (.t 87), none⟩,
        ⟨(some 89), some (82, false), .eqb true true (.t 84) (.t 88), none⟩,
        ⟨(some 90), none, .pick (.t 82) (.c (.bool true)) (.t 89), none⟩] (some [5, 7, 13, 14, 90])) (
      .ite (.t 90) (
        .seq (.reg false [
          ⟨(some 4), none, .mv false (.c (.bool false)), none⟩] (some [4])) (
        .ret)) (
        .skip))) (
      .reg false [
        ⟨(some 91), none, .ld (some 3) (.t 14), none⟩,
        ⟨none, none, .st (some 3) (.t 5) (.t 91), none⟩] (some [5, 7, 13]))))) (
    .reg false [
      ⟨(some 73), none, .mv false (.t 13), none⟩,
      ⟨(some 74), none, .bin .sub .i64 (.t 73) (.c (.int .i64 1)), none⟩,
      ⟨(some 13), none, .mv false (.t 74), none⟩] (some [5, 7, 13]))))))) (
.seq (.seq (.reg false [
  ⟨(some 93), none, .ld (some 3) (.t 5), none⟩,
  ⟨(some 94), none, .call false 17 [(.t 93)], none⟩,
  ⟨(some 92), none, .mv false (.t 94), none⟩,
  ⟨(some 95), none, .ext (.t 92) 0, none⟩,
  ⟨(some 96), none, .ext (.t 92) 1, none⟩,
  ⟨(some 16), none, .alloc [(.ls 3 []), (.ls 3 []), (.str [])], none⟩,
  ⟨none, none, .st (some 3) (.t 16) (.t 95), none⟩,
  ⟨(some 17), none, .mv false (.t 96), none⟩] (some [5, 7, 17])) (
.seq (.reg false [
  ⟨(some 97), none, .mv false (.t 17), none⟩] (some [5, 7, 97])) (
.ite (.t 97) (
  .seq (.reg false [
    ⟨(some 4), none, .mv false (.c (.bool false)), none⟩] (some [4])) (
  .ret)) (
  .skip)))) (
.seq (.seq (.reg false [
  ⟨(some 98), none, .mv false (.t 7), none⟩,
  ⟨(some 99), none, .sls true 1 (.t 98) (some (.c (.int .i64 1))) none, none⟩,
  ⟨(some 100), none, .len false (.t 99), none⟩,
  ⟨(some 101), none, .mv false (.c (.int .i64 0)), none⟩] (some [5, 99, 100, 101])) (
.blk 4 (
  .loop (
    .seq (.reg false [
      ⟨(some 102), none, .bin .lss .i64 (.t 101) (.t 100), none⟩] (some [5, 99, 100, 101, 102])) (
    .seq (.ite (.t 102) (
      .skip) (
      .exit 4)) (
    .seq (.blk 5 (
      .seq (.reg false [
        ⟨(some 103), none, .ixs 1 (.t 99) (.t 101), none⟩,
        ⟨(some 104), none, .ld none (.t 103), none⟩,
        ⟨(some 19), none, .mv false (.t 104), none⟩] (some [5, 19, 99, 100, 101])) (
      .seq (.reg false [
        ⟨(some 106), none, .ld (some 3) (.t 5), none⟩,
        ⟨(some 107), none, .call false 18 [(.t 106)], none⟩,
        ⟨(some 105), none, .mv false (.t 107), none⟩,
        ⟨(some 108), none, .ext (.t 105) 0, none⟩,
        ⟨(some 109), none, .ext (.t 105) 1, none⟩,
        ⟨(some 20), none, .alloc [(.ls 3 []), (.ls 3 []), (.str [])], none⟩,
        ⟨none, none, .st (some 3) (.t 20) (.t 108), none⟩,
        ⟨(some 21), none, .mv false (.t 109), none⟩] (some [5, 19, 20, 21, 99, 100, 101])) (
      .seq (.seq (.reg false [
        ⟨(some 110), none, .mv false (.t 21), none⟩,
        ⟨(some 111), none, .not (.t 110), none⟩,
        ⟨(some 112), none, .mv false (.t 111), none⟩,
        ⟨(some 113), some (112, false), .ld (some 3) (.t 20), none⟩,
        ⟨(some 114), some (112, false), .call false 13 [(.t 113)], none⟩,
        ⟨(some 115), some (112, false), .mv false (.t 19), none⟩,
        ⟨(some 116), some (112, false), .eqb true true (.t 114) (.t 115), none⟩,
        ⟨(some 117), none, .pick (.t 112) (.c (.bool true)) (.t 116), none⟩] (some [5, 20, 99, 100, 101, 117])) (
      .ite (.t 117) (
        .seq (.reg false [
          ⟨(some 4), none, .mv false (.c (.bool false)), none⟩] (some [4])) (
        .ret)) (
        .skip))) (
      .reg false [
        ⟨(some 118), none, .ld (some 3) (.t 20), none⟩,
        ⟨none, none, .st (some 3) (.t 5) (.t 118), none⟩] (some [5, 99, 100, 101])))))) (
    .reg false [
      ⟨(some 119), none, .bin .add .i64 (.t 101) (.c (.int .i64 1)), none⟩,
      ⟨(some 101), none, .mv false (.t 119), none⟩] (some [5, 99, 100, 101])))))))) (
.seq (.reg false [
  ⟨(some 121), none, .ld (some 3) (.t 5), none⟩,
  ⟨(some 122), none, .call false 18 [(.t 121)], none⟩,
  ⟨(some 120), none, .mv false (.t 122), none⟩,
  ⟨(some 123), none, .ext (.t 120) 0, none⟩,
  ⟨(some 124), none, .ext (.t 120) 1, none⟩,
  ⟨(some 22), none, .alloc [(.ls 3 []), (.ls 3 []), (.str [])], none⟩,
  ⟨none, none, .st (some 3) (.t 22) (.t 123), none⟩,
  ⟨(some 23), none, .mv false (.t 124), none⟩] (some [23])) (
.seq (.reg false [
  ⟨(some 125), none, .mv false (.t 23), none⟩,
  ⟨(some 126), none, .not (.t 125), none⟩,
  ⟨(some 127), none, .mv false (.t 126), none⟩,
  ⟨(some 128), some (127, true), .call false 10 [], none⟩,
  ⟨(some 129), none, .pick (.t 127) (.t 128) (.c (.bool false)), none⟩,
  ⟨(some 4), none, .mv false (.t 129), none⟩] (some [4])) (
.ret)))))))))))
set_option maxRecDepth 1000000 in
theorem comp_law54_BufferUndoes : (Try.f4.body.bind fun code => compC Try.prog Try.f4.ntmps code c_law54_BufferUndoes) = some c_law54_BufferUndoes.bare := by kernel_rfl
def r_law54_BufferUndoes : List R := [.t 4]
theorem spo_law54_BufferUndoes {ds : List D} {d : D} (hn : Nat.ble ds.length 130 = true) (h : run TSpM gtab 0 c_law54_BufferUndoes (retK r_law54_BufferUndoes (· = d)) ⟨env0 0 ds, []⟩) : TSp 4 ds d := Sp_of mixed c_law54_BufferUndoes r_law54_BufferUndoes (fn := Try.f4) (by kernel_rfl) (by kernel_rfl) comp_law54_BufferUndoes (by kernel_rfl) hn h
theorem spm_law54_BufferUndoes {ds : List D} {d : D} {bx bx' : List Ent} (hn : Nat.ble ds.length 130 = true) (h : run TSpM gtab (sizeE bx) c_law54_BufferUndoes (retG r_law54_BufferUndoes (fun d1 bx1 => Rt (sizeE bx) bx1 d1 d bx')) ⟨env0 0 ds, bx⟩) : TSpM 4 ds bx d bx' := SpM_of mixed c_law54_BufferUndoes r_law54_BufferUndoes (fn := Try.f4) (by kernel_rfl) (by kernel_rfl) comp_law54_BufferUndoes (by kernel_rfl) hn h
/-- glazier/glazierlaw54.BufferTakes -/
def c_law54_BufferTakes : C := .seq (.reg false [
  ⟨(some 6), none, .mv false (.c (.bool false)), none⟩] (some [0, 1, 2])) (
.seq (.seq (.reg false [
  ⟨(some 22), none, .mv false (.t 0), none⟩,
  ⟨(some 23), none, .len true (.t 22), none⟩,
  ⟨(some 24), none, .bin .gtr .i64 (.t 23) (.c (.int .i64 300)), none⟩,
  ⟨(some 25), none, .mv false (.t 24), none⟩,
  ⟨(some 26), some (25, false), .mv false (.t 1), none⟩,
  ⟨(some 27), some (25, false), .len true (.t 26), none⟩,
  ⟨(some 28), some (25, false), .bin .gtr .i64 (.t 27) (.c (.int .i64 60)), none⟩,
  ⟨(some 29), none, .pick (.t 25) (.c (.bool true)) (.t 28), none⟩,
  ⟨(some 30), none, .mv false (.t 29), none⟩,
  ⟨(some 31), some (30, false), .mv false (.t 1), none⟩,
  ⟨(some 32), some (30, false), .eqb false true (.t 31) (.c (.str [])), none⟩,
  ⟨(some 33), none, .pick (.t 30) (.c (.bool true)) (.t 32), none⟩,
  ⟨(some 34), none, .mv false (.t 33), none⟩,
  ⟨(some 35), some (34, false), .mv false (.t 0), none⟩,
  ⟨(some 36), some (34, false), .call false 12 [(.t 35)], none⟩,
  ⟨(some 37), some (34, false), .not (.t 36), none⟩,
  ⟨(some 38), none, .pick (.t 34) (.c (.bool true)) (.t 37), none⟩,
  ⟨(some 39), none, .mv false (.t 38), none⟩,
  ⟨(some 40), some (39, false), .mv false (.t 1), none⟩,
  ⟨(some 41), some (39, false), .call false 12 [(.t 40)], none⟩,
  ⟨(some 42), some (39, false), .not (.t 41), none⟩,
  ⟨(some 43), none, .pick (.t 39) (.c (.bool true)) (.t 42), none⟩] (some [0, 1, 2, 43])) (
.ite (.t 43) (
  .seq (.reg false [
    ⟨(some 44), none, .call false 10 [], none⟩,
    ⟨(some 6), none, .mv false (.t 44), none⟩] (some [6])) (
  .ret)) (
  .skip))) (
.seq (.reg false [
  ⟨(some 46), none, .mv false (.t 0), none⟩,
  ⟨(some 47), none, .call false 11 [(.t 46)], none⟩,
  ⟨(some 45), none, .mv false (.t 47), none⟩,
  ⟨(some 48), none, .ext (.t 45) 0, none⟩,
  ⟨(some 49), none, .ext (.t 45) 1, none⟩,
  ⟨(some 7), none, .alloc [(.ls 3 []), (.ls 3 []), (.str [])], none⟩,
  ⟨none, none, .st (some 3) (.t 7) (.t 48), none⟩,
  ⟨(some 8), none, .mv false (.t 49), none⟩] (some [0, 1, 2, 7, 8])) (
.seq (.reg false [
  ⟨(some 50), none, .mv false (.t 2), none⟩,
  ⟨(some 51), none, .conv .i64 (.t 50), none⟩,
  ⟨(some 52), none, .mv false (.t 0), none⟩,
  ⟨(some 53), none, .len true (.t 52), none⟩,
  ⟨(some 54), none, .bin .add .i64 (.t 53) (.c (.int .i64 1)), none⟩,
  ⟨(some 55), none, .bin .rem .i64 (.t 51) (.t 54), none⟩,
  ⟨(some 9), none, .mv false (.t 55), none⟩] (some [0, 1, 7, 8, 9])) (
.seq (.reg false [
  ⟨(some 57), none, .ld (some 3) (.t 7), none⟩,
  ⟨(some 58), none, .mv false (.t 9), none⟩,
  ⟨(some 59), none, .mv false (.t 1), none⟩,
  ⟨(some 60), none, .call false 19 [(.t 57), (.t 58), (.t 59)], none⟩,
  ⟨(some 56), none, .mv false (.t 60), none⟩,
  ⟨(some 61), none, .ext (.t 56) 0, none⟩,
  ⟨(some 62), none, .ext (.t 56) 1, none⟩,
  ⟨(some 10), none, .alloc [(.ls 3 []), (.ls 3 []), (.str [])], none⟩,
  ⟨none, none, .st (some 3) (.t 10) (.t 61), none⟩,
  ⟨(some 11), none, .mv false (.t 62), none⟩] (some [0, 1, 8, 9, 10, 11])) (
.seq (.reg false [
  ⟨(some 64), none, .ld (some 3) (.t 10), none⟩,
  ⟨(some 65), none, .mv false (.t 9), none⟩,
  ⟨(some 66), none, .mv false (.t 9), none⟩,
  ⟨(some 67), none, .mv false (.t 1), none⟩,
  ⟨(some 68), none, .len true (.t 67), none⟩,
  ⟨(some 69), none, .bin .add .i64 (.t 66) (.t 68), none⟩,
  ⟨(some 70), none, .call false 20 [(.t 64), (.t 65), (.t 69)], none⟩,
  ⟨(some 63), none, .mv false (.t 70), none⟩,
  ⟨(some 71), none, .ext (.t 63) 0, none⟩,
  ⟨(some 72), none, .ext (.t 63) 1, none⟩,
  ⟨(some 12), none, .alloc [(.ls 3 []), (.ls 3 []), (.str [])], none⟩,
  ⟨none, none, .st (some 3) (.t 12) (.t 71), none⟩,
  ⟨(some 13), none, .mv false (.t 72), none⟩] (some [0, 8, 10, 11, 12, 13])) (
.seq (.reg false [
  ⟨(some 74), none, .ld (some 3) (.t 12), none⟩,
  ⟨(some 75), none, .call false 17 [(.t 74)], none⟩,
  ⟨(some 73), none, .mv false (.t 75), none⟩,
  ⟨(some 76), none, .ext (.t 73) 0, none⟩,
  ⟨(some 77), none, .ext (.t 73) 1, none⟩,
  ⟨(some 14), none, .alloc [(.ls 3 []), (.ls 3 []), (.str [])], none⟩,
  ⟨none, none, .st (some 3) (.t 14) (.t 76), none⟩,
  ⟨(some 15), none, .mv false (.t 77), none⟩] (some [0, 8, 10, 11, 12, 13, 14, 15])) (
.seq (.reg false [
  ⟨(some 79), none, .ld (some 3) (.t 14), none⟩,
  ⟨(some 80), none, .call false 19 [(.t 79), (.c (.int .i64 0)), (.c (.str [113]))], none⟩,
  ⟨(some 78), none, .mv false (.t 80), none⟩,
  ⟨(some 81), none, .ext (.t 78) 0, none⟩,
  ⟨(some 82), none, .ext (.t 78) 1, none⟩,
  ⟨(some 16), none, .alloc [(.ls 3 []), (.ls 3 []), (.str [])], none⟩,
  ⟨none, none, .st (some 3) (.t 16) (.t 81), none⟩,
  ⟨(some 17), none, .mv false (.t 82), none⟩] (some [0, 8, 10, 11, 12, 13, 14, 15, 16, 17])) (
.seq (.reg false [
  ⟨(some 84), none, .ld (some 3) (.t 16), none⟩,
  ⟨(some 85), none, .call false 18 [(.t 84)], none⟩,
  ⟨(some 83), none, .mv false (.t 85), none⟩,
  ⟨(some 86), none, .ext (.t 83) 0, none⟩,
  ⟨(some 87), none, .ext (.t 83) 1, none⟩,
  ⟨(some 18), none, .alloc [(.ls 3 []), (.ls 3 []), (.str [])], none⟩,
  ⟨none, none, .st (some 3) (.t 18) (.t 86), none⟩,
  ⟨(some 19), none, .mv false (.t 87), none⟩] (some [0, 8, 10, 11, 12, 13, 14, 15, 16, 17, 19])) (
.seq (.reg false [
  ⟨(some 89), none, .ld (some 3) (.t 16), none⟩,
  ⟨(some 90), none, .call false 17 [(.t 89)], none⟩,
  ⟨(some 88), none, .mv false (.t 90), none⟩,
  ⟨(some 91), none, .ext (.t 88) 0, none⟩,
  ⟨(some 92), none, .ext (.t 88) 1, none⟩,
  ⟨(some 20), none, .alloc [(.ls 3 []), (.ls 3 []), (.str [])], none⟩,
  ⟨none, none, .st (some 3) (.t 20) (.t 91), none⟩,
  ⟨(some 21), none, .mv false (.t 92), none⟩] (some [0, 8, 10, 11, 12, 13, 14, 15, 17, 19, 20, 21])) (
.seq (.reg true [
  ⟨(some 93), none, .mv false (.t 8), none⟩,
  ⟨(some 94), none, .bin .eql .i64 (.t 93) (.c (.int .i64 0)), none⟩,
  ⟨(some 95), none, .mv false (.t 94), none⟩,
  ⟨(some 96), some (95, true), .mv false (.t 11), none⟩,
  ⟨(some 97), some (95, true), .bin .eql .i64 (.t 96) (.c (.int .i64 0)), none⟩,
  ⟨(some 98), none, .pick (.t 95) (.t 97) (.c (.bool false)), none⟩,
  ⟨(some 99), none, .mv false (.t 98), none⟩,
  ⟨(some 100), some (99, true), .mv false (.t 13), none⟩,
  ⟨(some 101), some (99, true), .bin .eql .i64 (.t 100) (.c (.int .i64 0)), none⟩,
  ⟨(some 102), none, .pick (.t 99) (.t 101) (.c (.bool false)), none⟩,
  ⟨(some 103), none, .mv false (.t 102), none⟩,
  ⟨(some 104), some (103, true), .mv false (.t 17), none⟩,
  ⟨(some 105), some (103, true), .bin .eql .i64 (.t 104) (.c (.int .i64 0)), none⟩,
  ⟨(some 106), none, .pick (.t 103) (.t 105) (.c (.bool false)), none⟩,
  ⟨(some 107), none, .mv false (.t 106), none⟩,
  ⟨(some 108), some (107, true), .mv false (.t 15), none⟩,
  ⟨(some 109), none, .pick (.t 107) (.t 108) (.c (.bool false)), none⟩,
  ⟨(some 110), none, .mv false (.t 109), none⟩,
  ⟨(some 111), some (110, true), .mv false (.t 21), none⟩,
  ⟨(some 112), none, .pick (.t 110) (.t 111) (.c (.bool false)), none⟩,
  ⟨(some 113), none, .mv false (.t 112), none⟩,
  ⟨(some 114), some (113, true), .mv false (.t 19), none⟩,
  ⟨(some 115), some (113, true), .not (.t 114), none⟩,
  ⟨(some 116), none, .pick (.t 113) (.t 115) (.c (.bool false)), none⟩,
  ⟨(some 117), none, .mv false (.t 116), none⟩,
  ⟨(some 118), some (117, true), .ld (some 3) (.t 12), none⟩,
  ⟨(some 119), some (117, true), .call false 13 [(.t 118)], none⟩,
  ⟨(some 120), some (117, true), .mv false (.t 0), none⟩,
  ⟨(some 121), some (117, true), .eqb false true (.t 119) (.t 120), none⟩,
  ⟨(some 122), none, .pick (.t 117) (.t 121) (.c (.bool false)), none⟩,
  ⟨(some 123), none, .mv false (.t 122), none⟩,
  ⟨(some 124), some (123, true), .ld (some 3) (.t 14), none⟩,
  ⟨(some 125), some (123, true), .call false 13 [(.t 124)], none⟩,
  ⟨(some 126), some (123, true), .ld (some 3) (.t 10), none⟩,
  ⟨(some 127), some (123, true), .call false 13 [(.t 126)], none⟩,
  ⟨(some 128), some (123, true), .eqb false true (.t 125) (.t 127), none⟩,
  ⟨(some 129), none, .pick (.t 123) (.t 128) (.c (.bool false)), none⟩,
  ⟨(some 130), none, .mv false (.t 129), none⟩,
  ⟨(some 131), some (130, true), .ld (some 3) (.t 20), none⟩,
  ⟨(some 132), some (130, true), .call false 13 [(.t 131)], none⟩,
  ⟨(some 133), some (130, true), .ld (some 3) (.t 10), none⟩,
  ⟨(some 134), some (130, true), .call false 13 [(.t 133)], none⟩,
  ⟨(some 135), some (130, true), .eqb false true (.t 132) (.t 134), none⟩,
  ⟨(some 136), none, .pick (.t 130) (.t 135) (.c (.bool false)), none⟩,
  ⟨(some 137), none, .mv false (.t 136), none⟩,
  ⟨(some 138), some (137, true), .call false 10 [], none⟩,
  ⟨(some 139), none, .pick (.t 137) (.t 138) (.c (.bool false)), none⟩,
  ⟨(some 6), none, .mv false (.t 139), none⟩] (some [6])) (
.ret)))))))))))
set_option maxRecDepth 1000000 in
theorem comp_law54_BufferTakes : (Try.f5.body.bind fun code => compC Try.prog Try.f5.ntmps code c_law54_BufferTakes) = some c_law54_BufferTakes.bare := by kernel_rfl
def r_law54_BufferTakes : List R := [.t 6]
theorem spo_law54_BufferTakes {ds : List D} {d : D} (hn : Nat.ble ds.length 140 = true) (h : run TSpM gtab 0 c_law54_BufferTakes (retK r_law54_BufferTakes (· = d)) ⟨env0 0 ds, []⟩) : TSp 5 ds d := Sp_of mixed c_law54_BufferTakes r_law54_BufferTakes (fn := Try.f5) (by kernel_rfl) (by kernel_rfl) comp_law54_BufferTakes (by kernel_rfl) hn h
theorem spm_law54_BufferTakes {ds : List D} {d : D} {bx bx' : List Ent} (hn : Nat.ble ds.length 140 = true) (h : run TSpM gtab (sizeE bx) c_law54_BufferTakes (retG r_law54_BufferTakes (fun d1 bx1 => Rt (sizeE bx) bx1 d1 d bx')) ⟨env0 0 ds, bx⟩) : TSpM 5 ds bx d bx' := SpM_of mixed c_law54_BufferTakes r_law54_BufferTakes (fn := Try.f5) (by kernel_rfl) (by kernel_rfl) comp_law54_BufferTakes (by kernel_rfl) hn h
/-- glazier/glazierlaw54.BufferPlays -/
def c_law54_BufferPlays : C := .seq (.reg false [
  ⟨(some 4), none, .mv false (.c (.bool false)), none⟩] (some [0, 1])) (
.seq (.seq (.reg false [
  ⟨(some 19), none, .mv false (.t 0), none⟩,
  ⟨(some 20), none, .mv false (.t 1), none⟩,
  ⟨(some 21), none, .call false 15 [(.t 19), (.t 20)], none⟩,
  ⟨(some 22), none, .not (.t 21), none⟩,
  ⟨(some 23), none, .mv false (.t 22), none⟩,
  ⟨(some 24), some (23, false), .mv false (.t 0), none⟩,
  ⟨(some 25), some (23, false), .call false 12 [(.t 24)], none⟩,
  ⟨(some 26), some (23, false), .not (.t 25), none⟩,
  ⟨(some 27), none, .pick (.t 23) (.c (.bool true)) (.t 26), none⟩] (some [0, 1, 27])) (
.ite (.t 27) (
  .seq (.reg false [
    ⟨(some 28), none, .call false 10 [], none⟩,
    ⟨(some 4), none, .mv false (.t 28), none⟩] (some [4])) (
  .ret)) (
  .skip))) (
.seq (.reg false [
  ⟨(some 30), none, .mv false (.t 0), none⟩,
  ⟨(some 31), none, .call false 11 [(.t 30)], none⟩,
  ⟨(some 29), none, .mv false (.t 31), none⟩,
  ⟨(some 32), none, .ext (.t 29) 0, none⟩,
  ⟨(some 33), none, .ext (.t 29) 1, none⟩,
  ⟨(some 5), none, .alloc [(.ls 3 []), (.ls 3 []), (.str [])], none⟩,
  ⟨none, none, .st (some 3) (.t 5) (.t 32), (some [0])⟩,
  ⟨(some 6), none, .mv false (.t 33), none⟩] (some [0, 1, 5, 6])) (
.seq (.reg false [
  ⟨(some 34), none, .mv false (.t 0), none⟩,
  ⟨(some 35), none, .bsl none 9 1 none [(.t 34)], none⟩,
  ⟨(some 36), none, .bld [(.ls 1 []), (.int .i64 0)] [(0, none, (.t 35))], none⟩,
  ⟨(some 7), none, .alloc [(.ls 1 []), (.int .i64 0)], none⟩,
  ⟨none, none, .st (some 2) (.t 7) (.t 36), none⟩] (some [1, 5, 6, 7])) (
.seq (.seq (.reg false [
  ⟨(some 37), none, .mv false (.t 6), none⟩,
  ⟨(some 38), none, .bin .neq .i64 (.t 37) (.c (.int .i64 0)), none⟩] (some [1, 5, 7, 38])) (
.ite (.t 38) (
  .seq (.reg false [
    ⟨(some 4), none, .mv false (.c (.bool false)), none⟩] (some [4])) (
  .ret)) (
  .skip))) (
.seq (.seq (.reg false [
  ⟨(some 39), none, .mv false (.t 1), none⟩,
  ⟨(some 40), none, .len false (.t 39), none⟩,
  ⟨(some 41), none, .mv false (.c (.int .i64 0)), none⟩] (some [5, 7, 39, 40, 41])) (
.blk 0 (
  .loop (
    .seq (.reg false [
      ⟨(some 42), none, .bin .lss .i64 (.t 41) (.t 40), none⟩] (some [5, 7, 39, 40, 41, 42])) (
    .seq (.ite (.t 42) (
      .skip) (
      .exit 0)) (
    .seq (.blk 1 (
      .seq (.reg false [
        ⟨(some 43), none, .ixs 4 (.t 39) (.t 41), none⟩,
        ⟨(some 44), none, .ld (some 4) (.t 43), none⟩,
        ⟨(some 9), none, .alloc [(.int .u8 0), (.int .i64 0), (.int .i64 0), (.str [])], none⟩,
        ⟨none, none, .st (some 4) (.t 9) (.t 44), none⟩] (some [5, 7, 9, 39, 40, 41])) (
      .seq (.seq (.reg false [
        ⟨(some 45), none, .fld 0 (.t 9), none⟩,
        ⟨(some 46), none, .ld none (.t 45), none⟩,
        ⟨(some 47), none, .bin .geq .u8 (.t 46) (.c (.int .u8 128)), none⟩] (some [5, 7, 9, 39, 40, 41, 47])) (
      .ite (.t 47) (
        .seq (.reg false [
          ⟨(some 49), none, .ld (some 3) (.t 5), none⟩,
          ⟨(some 50), none, .call false 19 [(.t 49), (.c (.int .i64 0)), (.c (.str [122, 122]))], none⟩,
          ⟨(some 48), none, .mv false (.t 50), none⟩,
          ⟨(some 51), none, .ext (.t 48) 0, none⟩,
          ⟨(some 52), none, .ext (.t 48) 1, none⟩,
          ⟨(some 10), none, .alloc [(.ls 3 []), (.ls 3 []), (.str [])], none⟩,
          ⟨none, none, .st (some 3) (.t 10) (.t 51), none⟩,
          ⟨(some 11), none, .mv false (.t 52), none⟩] (some [5, 7, 9, 10, 39, 40, 41])) (
        .seq (.reg false [
          ⟨(some 54), none, .ld (some 3) (.t 10), none⟩,
          ⟨(some 55), none, .call false 17 [(.t 54)], none⟩,
          ⟨(some 53), none, .mv false (.t 55), none⟩,
          ⟨(some 56), none, .ext (.t 53) 0, none⟩,
          ⟨(some 57), none, .ext (.t 53) 1, none⟩,
          ⟨none, none, .st (some 3) (.t 10) (.t 56), none⟩] (some [5, 7, 9, 10, 39, 40, 41])) (
        .seq (.reg true [
          ⟨(some 58), none, .ld (some 3) (.t 10), none⟩,
          ⟨(some 59), none, .call false 13 [(.t 58)], none⟩,
          ⟨(some 60), none, .ld (some 3) (.t 5), none⟩,
          ⟨(some 61), none, .call false 13 [(.t 60)], none⟩,
          ⟨(some 62), none, .eqb true true (.t 59) (.t 61), none⟩] (some [5, 7, 9, 39, 40, 41, 62])) (
        .ite (.t 62) (
          .seq (.reg false [
            ⟨(some 4), none, .mv false (.c (.bool false)), none⟩] (some [4])) (
          .ret)) (
          .skip))))) (
        .skip))) (
      .seq (.reg false [
        ⟨(some 63), none, .ld (some 3) (.t 5), none⟩,
        ⟨(some 12), none, .alloc [(.ls 3 []), (.ls 3 []), (.str [])], none⟩,
        ⟨none, none, .st (some 3) (.t 12) (.t 63), none⟩] (some [5, 7, 9, 12, 39, 40, 41])) (
      .seq (.reg false [
        ⟨(some 65), none, .ld (some 4) (.t 9), none⟩,
        ⟨(some 66), none, .ld (some 3) (.t 5), none⟩,
        ⟨(some 67), none, .call false 16 [(.t 65), (.t 66)], none⟩,
        ⟨(some 64), none, .mv false (.t 67), none⟩,
        ⟨(some 68), none, .ext (.t 64) 0, none⟩,
        ⟨(some 69), none, .ext (.t 64) 1, none⟩,
        ⟨(some 70), none, .ext (.t 64) 2, none⟩,
        ⟨(some 13), none, .alloc [(.ls 3 []), (.ls 3 []), (.str [])], none⟩,
        ⟨none, none, .st (some 3) (.t 13) (.t 68), none⟩,
        ⟨(some 14), none, .mv false (.t 69), none⟩,
        ⟨(some 15), none, .mv false (.t 70), none⟩] (some [5, 7, 9, 12, 13, 14, 15, 39, 40, 41])) (
      .seq (.reg false [
        ⟨(some 72), none, .ld (some 4) (.t 9), none⟩,
        ⟨(some 73), none, .ld (some 2) (.t 7), none⟩,
        ⟨(some 74), none, .call false 21 [(.t 72), (.t 73)], none⟩,
        ⟨(some 71), none, .mv false (.t 74), none⟩,
        ⟨(some 75), none, .ext (.t 71) 0, none⟩,
        ⟨(some 76), none, .ext (.t 71) 1, none⟩,
        ⟨(some 77), none, .ext (.t 71) 2, none⟩,
        ⟨(some 16), none, .alloc [(.ls 1 []), (.int .i64 0)], none⟩,
        ⟨none, none, .st (some 2) (.t 16) (.t 75), none⟩,
        ⟨(some 17), none, .mv false (.t 76), none⟩,
        ⟨(some 18), none, .mv false (.t 77), none⟩] (some [5, 7, 12, 13, 14, 15, 16, 17, 18, 39, 40, 41])) (
      .seq (.seq (.reg true [
        ⟨(some 78), none, .mv false (.t 14), none⟩,
        ⟨(some 79), none, .mv false (.t 17), none⟩,
        ⟨(some 80), none, .bin .neq .i64 (.t 78) (.t 79), none⟩,
        ⟨(some 81), none, .mv false (.t 80), none⟩,
        ⟨(some 82), some (81, false), .mv false (.t 15), none⟩,
        ⟨(some 83), some (81, false), .mv false (.t 18), none⟩,
        ⟨(some 84), some (81, false), .eqb true false (.t 82) (.t 83), none⟩,
        ⟨(some 85), none, .pick (.t 81) (.c (.bool true)) (.t 84), none⟩,
        ⟨(some 86), none, .mv false (.t 85), none⟩,
        ⟨(some 87), some (86, false), .ld (some 3) (.t 12), none⟩,
        ⟨(some 88), some (86, false), .call false 13 [(.t 87)], none⟩,
        ⟨(some 89), some (86, false), .ld (some 2) (.t 7), none⟩,
        ⟨(some 90), some (86, false), .call false 22 [(.t 89)], none⟩,
        ⟨(some 91), some (86, false), .eqb true true (.t 88) (.t 90), none⟩,
        ⟨(some 92), none, .pick (.t 86) (.c (.bool true)) (.t 91), none⟩,
        ⟨(some 93), none, .mv false (.t 92), none⟩,
        ⟨(some 94), some (93, false), .ld (some 3) (.t 13), none⟩,
        ⟨(some 95), some (93, false), .call false 13 [(.t 94)], none⟩,
        ⟨(some 96), some (93, false), .ld (some 2) (.t 16), none⟩,
        ⟨(some 97), some (93, false), .call false 22 [(.t 96)], none⟩,
        ⟨(some 98), some (93, false), .eqb true true (.t 95) (.t 97), none⟩,
        ⟨(some 99), none, .pick (.t 93) (.c (.bool true)) (.t 98), none⟩,
        ⟨(some 100), none, .mv false (.t 99), none⟩,
        ⟨(some 101), some (100, false), .ld (some 3) (.t 13), none⟩,
        ⟨(some 102), some (100, false), .call false 14 [(.t 101)], none⟩,
        ⟨(some 103), some (100, false), .ld (some 2) (.t 16), none⟩,
        ⟨(some 104), some (100, false), .call false 22 [(.t 103)], none⟩,
        ⟨(some 105), some (100, false), .len true (.t 104), none⟩,
        ⟨(some 106), some (100, false), .bin .neq .i64 (.t 102) (.t 105), none⟩,
        ⟨(some 107), none, .pick (.t 100) (.c (.bool true)) (.t 106), none⟩] (some [5, 7, 13, 16, 39, 40, 41, 107])) (
      .ite (.t 107) (
        .seq (.reg false [
          ⟨(some 4), none, .mv false (.c (.bool false)), none⟩] (some [4])) (
        .ret)) (
        .skip))) (
      .reg true [
        ⟨(some 108), none, .ld (some 3) (.t 13), none⟩,
        ⟨(some 109), none, .ld (some 2) (.t 16), (some [5, 6])⟩,
        ⟨none, none, .st (some 3) (.t 5) (.t 108), (some [0])⟩,
        ⟨none, none, .st (some 2) (.t 7) (.t 109), none⟩] (some [5, 7, 39, 40, 41]))))))))) (
    .reg false [
      ⟨(some 110), none, .bin .add .i64 (.t 41) (.c (.int .i64 1)), none⟩,
      ⟨(some 41), none, .mv false (.t 110), none⟩] (some [5, 7, 39, 40, 41])))))))) (
.seq (.reg false [
  ⟨(some 111), none, .call false 10 [], none⟩,
  ⟨(some 4), none, .mv false (.t 111), none⟩] (some [4])) (
.ret)))))))
set_option maxRecDepth 1000000 in
theorem comp_law54_BufferPlays : (Try.f6.body.bind fun code => compC Try.prog Try.f6.ntmps code c_law54_BufferPlays) = some c_law54_BufferPlays.bare := by kernel_rfl
def r_law54_BufferPlays : List R := [.t 4]
theorem spo_law54_BufferPlays {ds : List D} {d : D} (hn : Nat.ble ds.length 112 = true) (h : run TSpM gtab 0 c_law54_BufferPlays (retK r_law54_BufferPlays (· = d)) ⟨env0 0 ds, []⟩) : TSp 6 ds d := Sp_of mixed c_law54_BufferPlays r_law54_BufferPlays (fn := Try.f6) (by kernel_rfl) (by kernel_rfl) comp_law54_BufferPlays (by kernel_rfl) hn h
theorem spm_law54_BufferPlays {ds : List D} {d : D} {bx bx' : List Ent} (hn : Nat.ble ds.length 112 = true) (h : run TSpM gtab (sizeE bx) c_law54_BufferPlays (retG r_law54_BufferPlays (fun d1 bx1 => Rt (sizeE bx) bx1 d1 d bx')) ⟨env0 0 ds, bx⟩) : TSpM 6 ds bx d bx' := SpM_of mixed c_law54_BufferPlays r_law54_BufferPlays (fn := Try.f6) (by kernel_rfl) (by kernel_rfl) comp_law54_BufferPlays (by kernel_rfl) hn h
/-- glazier/glazierlaw54.BufferLines -/
def c_law54_BufferLines : C := .seq (.reg false [
  ⟨(some 10), none, .mv false (.c (.bool false)), none⟩] (some [0, 1, 2, 3, 4])) (
.seq (.seq (.reg false [
  ⟨(some 19), none, .mv false (.t 0), none⟩,
  ⟨(some 20), none, .len true (.t 19), none⟩,
  ⟨(some 21), none, .bin .gtr .i64 (.t 20) (.c (.int .i64 300)), none⟩,
  ⟨(some 22), none, .mv false (.t 21), none⟩,
  ⟨(some 23), some (22, false), .mv false (.t 0), none⟩,
  ⟨(some 24), some (22, false), .call false 12 [(.t 23)], none⟩,
  ⟨(some 25), some (22, false), .not (.t 24), none⟩,
  ⟨(some 26), none, .pick (.t 22) (.c (.bool true)) (.t 25), none⟩] (some [0, 1, 2, 3, 4, 26])) (
.ite (.t 26) (
  .seq (.reg false [
    ⟨(some 27), none, .call false 10 [], none⟩,
    ⟨(some 10), none, .mv false (.t 27), none⟩] (some [10])) (
  .ret)) (
  .skip))) (
.seq (.reg false [
  ⟨(some 29), none, .mv false (.t 0), none⟩,
  ⟨(some 30), none, .call false 11 [(.t 29)], none⟩,
  ⟨(some 28), none, .mv false (.t 30), none⟩,
  ⟨(some 31), none, .ext (.t 28) 0, none⟩,
  ⟨(some 32), none, .ext (.t 28) 1, none⟩,
  ⟨(some 11), none, .alloc [(.ls 3 []), (.ls 3 []), (.str [])], none⟩,
  ⟨none, none, .st (some 3) (.t 11) (.t 31), none⟩,
  ⟨(some 12), none, .mv false (.t 32), none⟩] (some [0, 1, 2, 3, 4, 11, 12])) (
.seq (.reg false [
  ⟨(some 33), none, .mv false (.t 0), none⟩,
  ⟨(some 34), none, .call false 23 [(.t 33)], none⟩,
  ⟨(some 13), none, .mv false (.t 34), none⟩] (some [0, 1, 2, 3, 4, 11, 12, 13])) (
.seq (.reg false [
  ⟨(some 14), none, .mv false (.c (.str [])), none⟩] (some [0, 1, 2, 3, 4, 11, 12, 13, 14])) (
.seq (.seq (.reg false [
  ⟨(some 35), none, .mv false (.t 1), none⟩,
  ⟨(some 36), none, .bin .geq .i64 (.t 35) (.c (.int .i64 0)), none⟩,
  ⟨(some 37), none, .mv false (.t 36), none⟩,
  ⟨(some 38), some (37, true), .mv false (.t 1), none⟩,
  ⟨(some 39), some (37, true), .mv false (.t 13), none⟩,
  ⟨(some 40), some (37, true), .len false (.t 39), none⟩,
  ⟨(some 41), some (37, true), .bin .lss .i64 (.t 38) (.t 40), none⟩,
  ⟨(some 42), none, .pick (.t 37) (.t 41) (.c (.bool false)), none⟩] (some [0, 1, 2, 3, 4, 11, 12, 13, 14, 42])) (
.ite (.t 42) (
  .reg false [
    ⟨(some 43), none, .mv false (.t 13), none⟩,
    ⟨(some 44), none, .mv false (.t 1), none⟩,
    ⟨(some 45), none, .ixs 1 (.t 43) (.t 44), none⟩,
    ⟨(some 46), none, .ld none (.t 45), none⟩,
    ⟨(some 14), none, .mv false (.t 46), none⟩] (some [0, 1, 2, 3, 4, 11, 12, 13, 14])) (
  .skip))) (
.seq (.reg false [
  ⟨(some 48), none, .ld (some 3) (.t 11), none⟩,
  ⟨(some 49), none, .mv false (.t 2), none⟩,
  ⟨(some 50), none, .call false 24 [(.t 48), (.t 49)], none⟩,
  ⟨(some 47), none, .mv false (.t 50), none⟩,
  ⟨(some 51), none, .ext (.t 47) 0, none⟩,
  ⟨(some 52), none, .ext (.t 47) 1, none⟩,
  ⟨(some 15), none, .mv false (.t 51), none⟩,
  ⟨(some 16), none, .mv false (.t 52), none⟩] (some [0, 1, 2, 3, 4, 11, 12, 13, 14, 15, 16])) (
.seq (.reg false [
  ⟨(some 54), none, .mv false (.t 0), none⟩,
  ⟨(some 55), none, .mv false (.t 2), none⟩,
  ⟨(some 56), none, .call false 25 [(.t 54), (.t 55)], none⟩,
  ⟨(some 53), none, .mv false (.t 56), none⟩,
  ⟨(some 57), none, .ext (.t 53) 0, none⟩,
  ⟨(some 58), none, .ext (.t 53) 1, none⟩,
  ⟨(some 17), none, .mv false (.t 57), none⟩,
  ⟨(some 18), none, .mv false (.t 58), none⟩] (some [0, 1, 3, 4, 11, 12, 13, 14, 15, 16, 17, 18])) (
.seq (.reg false [
  ⟨(some 59), none, .mv false (.t 12), none⟩,
  ⟨(some 60), none, .bin .eql .i64 (.t 59) (.c (.int .i64 0)), none⟩,
  ⟨(some 61), none, .mv false (.t 60), none⟩,
  ⟨(some 62), some (61, true), .ld (some 3) (.t 11), none⟩,
  ⟨(some 63), some (61, true), .call false 26 [(.t 62)], none⟩,
  ⟨(some 64), some (61, true), .mv false (.t 13), none⟩,
  ⟨(some 65), some (61, true), .len false (.t 64), none⟩,
  ⟨(some 66), some (61, true), .bin .eql .i64 (.t 63) (.t 65), none⟩,
  ⟨(some 67), none, .pick (.t 61) (.t 66) (.c (.bool false)), none⟩,
  ⟨(some 68), none, .mv false (.t 67), none⟩,
  ⟨(some 69), some (68, true), .ld (some 3) (.t 11), none⟩,
  ⟨(some 70), some (68, true), .mv false (.t 1), none⟩,
  ⟨(some 71), some (68, true), .call false 27 [(.t 69), (.t 70)], none⟩,
  ⟨(some 72), some (68, true), .mv false (.t 14), none⟩,
  ⟨(some 73), some (68, true), .eqb false true (.t 71) (.t 72), none⟩,
  ⟨(some 74), none, .pick (.t 68) (.t 73) (.c (.bool false)), none⟩,
  ⟨(some 75), none, .mv false (.t 74), none⟩,
  ⟨(some 76), some (75, true), .mv false (.t 15), none⟩,
  ⟨(some 77), some (75, true), .mv false (.t 17), none⟩,
  ⟨(some 78), some (75, true), .bin .eql .i64 (.t 76) (.t 77), none⟩,
  ⟨(some 79), none, .pick (.t 75) (.t 78) (.c (.bool false)), none⟩,
  ⟨(some 80), none, .mv false (.t 79), none⟩,
  ⟨(some 81), some (80, true), .mv false (.t 16), none⟩,
  ⟨(some 82), some (80, true), .mv false (.t 18), none⟩,
  ⟨(some 83), some (80, true), .bin .eql .i64 (.t 81) (.t 82), none⟩,
  ⟨(some 84), none, .pick (.t 80) (.t 83) (.c (.bool false)), none⟩,
  ⟨(some 85), none, .mv false (.t 84), none⟩,
  ⟨(some 86), some (85, true), .ld (some 3) (.t 11), none⟩,
  ⟨(some 87), some (85, true), .mv false (.t 3), none⟩,
  ⟨(some 88), some (85, true), .mv false (.t 4), none⟩,
  ⟨(some 89), some (85, true), .call false 28 [(.t 86), (.t 87), (.t 88)], none⟩,
  ⟨(some 90), some (85, true), .mv false (.t 0), none⟩,
  ⟨(some 91), some (85, true), .mv false (.t 3), none⟩,
  ⟨(some 92), some (85, true), .mv false (.t 4), none⟩,
  ⟨(some 93), some (85, true), .call false 29 [(.t 90), (.t 91), (.t 92)], none⟩,
  ⟨(some 94), some (85, true), .bin .eql .i64 (.t 89) (.t 93), none⟩,
  ⟨(some 95), none, .pick (.t 85) (.t 94) (.c (.bool false)), none⟩,
  ⟨(some 96), none, .mv false (.t 95), none⟩,
  ⟨(some 97), some (96, true), .call false 10 [], none⟩,
  ⟨(some 98), none, .pick (.t 96) (.t 97) (.c (.bool false)), none⟩,
  ⟨(some 10), none, .mv false (.t 98), none⟩] (some [10])) (
.ret)))))))))
set_option maxRecDepth 1000000 in
theorem comp_law54_BufferLines : (Try.f7.body.bind fun code => compC Try.prog Try.f7.ntmps code c_law54_BufferLines) = some c_law54_BufferLines.bare := by kernel_rfl
def r_law54_BufferLines : List R := [.t 10]
theorem spo_law54_BufferLines {ds : List D} {d : D} (hn : Nat.ble ds.length 99 = true) (h : run TSpM gtab 0 c_law54_BufferLines (retK r_law54_BufferLines (· = d)) ⟨env0 0 ds, []⟩) : TSp 7 ds d := Sp_of mixed c_law54_BufferLines r_law54_BufferLines (fn := Try.f7) (by kernel_rfl) (by kernel_rfl) comp_law54_BufferLines (by kernel_rfl) hn h
theorem spm_law54_BufferLines {ds : List D} {d : D} {bx bx' : List Ent} (hn : Nat.ble ds.length 99 = true) (h : run TSpM gtab (sizeE bx) c_law54_BufferLines (retG r_law54_BufferLines (fun d1 bx1 => Rt (sizeE bx) bx1 d1 d bx')) ⟨env0 0 ds, bx⟩) : TSpM 7 ds bx d bx' := SpM_of mixed c_law54_BufferLines r_law54_BufferLines (fn := Try.f7) (by kernel_rfl) (by kernel_rfl) comp_law54_BufferLines (by kernel_rfl) hn h
/-- glazier/glazierlaw54.BufferSpots -/
def c_law54_BufferSpots : C := .seq (.reg false [
  ⟨(some 4), none, .mv false (.c (.bool false)), none⟩] (some [0, 1])) (
.seq (.seq (.reg false [
  ⟨(some 12), none, .mv false (.t 0), none⟩,
  ⟨(some 13), none, .len true (.t 12), none⟩,
  ⟨(some 14), none, .bin .gtr .i64 (.t 13) (.c (.int .i64 300)), none⟩,
  ⟨(some 15), none, .mv false (.t 14), none⟩,
  ⟨(some 16), some (15, false), .mv false (.t 0), none⟩,
  ⟨(some 17), some (15, false), .call false 12 [(.t 16)], none⟩,
  ⟨(some 18), some (15, false), .not (.t 17), none⟩,
  ⟨(some 19), none, .pick (.t 15) (.c (.bool true)) (.t 18), none⟩] (some [0, 1, 19])) (
.ite (.t 19) (
  .seq (.reg false [
    ⟨(some 20), none, .call false 10 [], none⟩,
    ⟨(some 4), none, .mv false (.t 20), none⟩] (some [4])) (
  .ret)) (
  .skip))) (
.seq (.reg false [
  ⟨(some 22), none, .mv false (.t 0), none⟩,
  ⟨(some 23), none, .call false 11 [(.t 22)], none⟩,
  ⟨(some 21), none, .mv false (.t 23), none⟩,
  ⟨(some 24), none, .ext (.t 21) 0, none⟩,
  ⟨(some 25), none, .ext (.t 21) 1, none⟩,
  ⟨(some 5), none, .alloc [(.ls 3 []), (.ls 3 []), (.str [])], none⟩,
  ⟨none, none, .st (some 3) (.t 5) (.t 24), none⟩,
  ⟨(some 6), none, .mv false (.t 25), none⟩] (some [0, 1, 5, 6])) (
.seq (.reg false [
  ⟨(some 7), none, .nilS 9 1, none⟩] (some [0, 1, 5, 6, 7])) (
.seq (.seq (.reg false [
  ⟨(some 26), none, .ld (some 3) (.t 5), none⟩,
  ⟨(some 27), none, .call false 26 [(.t 26)], none⟩,
  ⟨(some 28), none, .mv false (.c (.int .i64 0)), none⟩] (some [0, 1, 5, 6, 7, 27, 28])) (
.blk 0 (
  .loop (
    .seq (.reg false [
      ⟨(some 29), none, .bin .lss .i64 (.t 28) (.t 27), none⟩] (some [0, 1, 5, 6, 7, 27, 28, 29])) (
    .seq (.ite (.t 29) (
      .skip) (
      .exit 0)) (
    .seq (.blk 1 (
      .seq (.reg false [
        ⟨(some 30), none, .mv false (.t 28), none⟩,
        ⟨(some 8), none, .mv false (.t 30), none⟩] (some [0, 1, 5, 6, 7, 8, 27, 28])) (
      .reg false [
        ⟨(some 31), none, .mv false (.t 7), none⟩,
        ⟨(some 32), none, .ld (some 3) (.t 5), none⟩,
        ⟨(some 33), none, .mv false (.t 8), none⟩,
        ⟨(some 34), none, .call false 27 [(.t 32), (.t 33)], none⟩,
        ⟨(some 35), none, .bsl none 9 1 none [(.t 34)], none⟩,
        ⟨(some 36), none, .app 9 1 16 (.t 31) (.t 35), none⟩,
        ⟨(some 7), none, .mv false (.t 36), none⟩] (some [0, 1, 5, 6, 7, 27, 28])))) (
    .reg false [
      ⟨(some 37), none, .bin .add .i64 (.t 28) (.c (.int .i64 1)), none⟩,
      ⟨(some 28), none, .mv false (.t 37), none⟩] (some [0, 1, 5, 6, 7, 27, 28])))))))) (
.seq (.reg false [
  ⟨(some 38), none, .mv false (.t 1), none⟩,
  ⟨(some 39), none, .conv .i64 (.t 38), none⟩,
  ⟨(some 40), none, .mv false (.t 0), none⟩,
  ⟨(some 41), none, .len true (.t 40), none⟩,
  ⟨(some 42), none, .bin .add .i64 (.t 41) (.c (.int .i64 1)), none⟩,
  ⟨(some 43), none, .bin .rem .i64 (.t 39) (.t 42), none⟩,
  ⟨(some 9), none, .mv false (.t 43), none⟩] (some [0, 5, 6, 7, 9])) (
.seq (.reg false [
  ⟨(some 45), none, .ld (some 3) (.t 5), none⟩,
  ⟨(some 46), none, .mv false (.t 9), none⟩,
  ⟨(some 47), none, .call false 24 [(.t 45), (.t 46)], none⟩,
  ⟨(some 44), none, .mv false (.t 47), none⟩,
  ⟨(some 48), none, .ext (.t 44) 0, none⟩,
  ⟨(some 49), none, .ext (.t 44) 1, none⟩,
  ⟨(some 10), none, .mv false (.t 48), none⟩,
  ⟨(some 11), none, .mv false (.t 49), none⟩] (some [0, 5, 6, 7, 9, 10, 11])) (
.seq (.reg false [
  ⟨(some 50), none, .mv false (.t 6), none⟩,
  ⟨(some 51), none, .bin .eql .i64 (.t 50) (.c (.int .i64 0)), none⟩,
  ⟨(some 52), none, .mv false (.t 51), none⟩,
  ⟨(some 53), some (52, true), .mv false (.t 7), none⟩,
  ⟨(some 54), some (52, true), .call false 30 [(.t 53), (.c (.str [10]))], none⟩,
  ⟨(some 55), some (52, true), .mv false (.t 0), none⟩,
  ⟨(some 56), some (52, true), .eqb false true (.t 54) (.t 55), none⟩,
  ⟨(some 57), none, .pick (.t 52) (.t 56) (.c (.bool false)), none⟩,
  ⟨(some 58), none, .mv false (.t 57), none⟩,
  ⟨(some 59), some (58, true), .ld (some 3) (.t 5), none⟩,
  ⟨(some 60), some (58, true), .mv false (.t 10), none⟩,
  ⟨(some 61), some (58, true), .mv false (.t 11), none⟩,
  ⟨(some 62), some (58, true), .call false 28 [(.t 59), (.t 60), (.t 61)], none⟩,
  ⟨(some 63), some (58, true), .mv false (.t 9), none⟩,
  ⟨(some 64), some (58, true), .bin .eql .i64 (.t 62) (.t 63), none⟩,
  ⟨(some 65), none, .pick (.t 58) (.t 64) (.c (.bool false)), none⟩,
  ⟨(some 66), none, .mv false (.t 65), none⟩,
  ⟨(some 67), some (66, true), .mv false (.t 11), none⟩,
  ⟨(some 68), some (66, true), .bin .geq .i64 (.t 67) (.c (.int .i64 0)), none⟩,
  ⟨(some 69), none, .pick (.t 66) (.t 68) (.c (.bool false)), none⟩,
  ⟨(some 70), none, .mv false (.t 69), none⟩,
  ⟨(some 71), some (70, true), .mv false (.t 11), none⟩,
  ⟨(some 72), some (70, true), .ld (some 3) (.t 5), none⟩,
  ⟨(some 73), some (70, true), .mv false (.t 10), none⟩,
  ⟨(some 74), some (70, true), .call false 27 [(.t 72), (.t 73)], none⟩,
  ⟨(some 75), some (70, true), .len true (.t 74), none⟩,
  ⟨(some 76), some (70, true), .bin .leq .i64 (.t 71) (.t 75), none⟩,
  ⟨(some 77), none, .pick (.t 70) (.t 76) (.c (.bool false)), none⟩,
  ⟨(some 78), none, .mv false (.t 77), none⟩,
  ⟨(some 79), some (78, true), .call false 10 [], none⟩,
  ⟨(some 80), none, .pick (.t 78) (.t 79) (.c (.bool false)), none⟩,
  ⟨(some 4), none, .mv false (.t 80), none⟩] (some [4])) (
.ret))))))))
set_option maxRecDepth 1000000 in
theorem comp_law54_BufferSpots : (Try.f8.body.bind fun code => compC Try.prog Try.f8.ntmps code c_law54_BufferSpots) = some c_law54_BufferSpots.bare := by kernel_rfl
def r_law54_BufferSpots : List R := [.t 4]
theorem spo_law54_BufferSpots {ds : List D} {d : D} (hn : Nat.ble ds.length 81 = true) (h : run TSpM gtab 0 c_law54_BufferSpots (retK r_law54_BufferSpots (· = d)) ⟨env0 0 ds, []⟩) : TSp 8 ds d := Sp_of mixed c_law54_BufferSpots r_law54_BufferSpots (fn := Try.f8) (by kernel_rfl) (by kernel_rfl) comp_law54_BufferSpots (by kernel_rfl) hn h
theorem spm_law54_BufferSpots {ds : List D} {d : D} {bx bx' : List Ent} (hn : Nat.ble ds.length 81 = true) (h : run TSpM gtab (sizeE bx) c_law54_BufferSpots (retG r_law54_BufferSpots (fun d1 bx1 => Rt (sizeE bx) bx1 d1 d bx')) ⟨env0 0 ds, bx⟩) : TSpM 8 ds bx d bx' := SpM_of mixed c_law54_BufferSpots r_law54_BufferSpots (fn := Try.f8) (by kernel_rfl) (by kernel_rfl) comp_law54_BufferSpots (by kernel_rfl) hn h
/-- glazier/glazierlaw54.BufferForgets -/
def c_law54_BufferForgets : C := .seq (.reg false [
  ⟨(some 0), none, .mv false (.c (.bool false)), none⟩] (some [])) (
.seq (.reg false [
  ⟨(some 17), none, .call false 11 [(.c (.str []))], none⟩,
  ⟨(some 16), none, .mv false (.t 17), none⟩,
  ⟨(some 18), none, .ext (.t 16) 0, none⟩,
  ⟨(some 19), none, .ext (.t 16) 1, none⟩,
  ⟨(some 1), none, .alloc [(.ls 3 []), (.ls 3 []), (.str [])], none⟩,
  ⟨none, none, .st (some 3) (.t 1) (.t 18), none⟩,
  ⟨(some 2), none, .mv false (.t 19), none⟩] (some [1, 2])) (
.seq (.seq (.reg false [
  ⟨(some 20), none, .mv false (.c (.int .i64 0)), none⟩] (some [1, 2, 20])) (
.blk 0 (
  .loop (
    .seq (.reg false [
      ⟨(some 21), none, .bin .lss .i64 (.t 20) (.c (.int .i64 300)), none⟩] (some [1, 2, 20, 21])) (
    .seq (.ite (.t 21) (
      .skip) (
      .exit 0)) (
    .seq (.blk 1 (
      .seq (.reg false [
        ⟨(some 23), none, .ld (some 3) (.t 1), none⟩,
        ⟨(some 24), none, .call false 19 [(.t 23), (.c (.int .i64 0)), (.c (.str [97]))], none⟩,
        ⟨(some 22), none, .mv false (.t 24), none⟩,
        ⟨(some 25), none, .ext (.t 22) 0, none⟩,
        ⟨(some 26), none, .ext (.t 22) 1, none⟩,
        ⟨(some 3), none, .alloc [(.ls 3 []), (.ls 3 []), (.str [])], none⟩,
        ⟨none, none, .st (some 3) (.t 3) (.t 25), none⟩,
        ⟨(some 4), none, .mv false (.t 26), none⟩] (some [1, 2, 3, 4, 20])) (
      .seq (.seq (.reg false [
        ⟨(some 27), none, .mv false (.t 4), none⟩,
        ⟨(some 28), none, .bin .neq .i64 (.t 27) (.c (.int .i64 0)), none⟩] (some [1, 2, 3, 20, 28])) (
      .ite (.t 28) (
        .seq (.reg false [
          ⟨(some 0), none, .mv false (.c (.bool false)), none⟩] (some [0])) (
        .ret)) (
        .skip))) (
      .reg false [
        ⟨(some 29), none, .ld (some 3) (.t 3), none⟩,
        ⟨none, none, .st (some 3) (.t 1) (.t 29), none⟩] (some [1, 2, 20]))))) (
    .reg false [
      ⟨(some 30), none, .bin .add .i64 (.t 20) (.c (.int .i64 1)), none⟩,
      ⟨(some 20), none, .mv false (.t 30), none⟩] (some [1, 2, 20])))))))) (
.seq (.reg false [
  ⟨(some 5), none, .mv false (.c (.int .i64 0)), none⟩] (some [1, 2, 5])) (
.seq (.blk 2 (
  .loop (
    .seq (.seq (.reg false [
      ⟨(some 31), none, .mv false (.t 5), none⟩,
      ⟨(some 32), none, .bin .lss .i64 (.t 31) (.c (.int .i64 400)), none⟩] (some [1, 2, 5, 32])) (
    .ite (.t 32) (
      .skip) (
      .exit 2))) (
    .blk 3 (
      .seq (.reg false [
        ⟨(some 34), none, .ld (some 3) (.t 1), none⟩,
        ⟨(some 35), none, .call false 17 [(.t 34)], none⟩,
        ⟨(some 33), none, .mv false (.t 35), none⟩,
        ⟨(some 36), none, .ext (.t 33) 0, none⟩,
        ⟨(some 37), none, .ext (.t 33) 1, none⟩,
        ⟨(some 6), none, .alloc [(.ls 3 []), (.ls 3 []), (.str [])], none⟩,
        ⟨none, none, .st (some 3) (.t 6) (.t 36), none⟩,
        ⟨(some 7), none, .mv false (.t 37), none⟩] (some [1, 2, 5, 6, 7])) (
      .seq (.seq (.reg false [
        ⟨(some 38), none, .mv false (.t 7), none⟩,
        ⟨(some 39), none, .not (.t 38), none⟩] (some [1, 2, 5, 6, 39])) (
      .ite (.t 39) (
        .exit 2) (
        .skip))) (
      .seq (.reg false [
        ⟨(some 40), none, .ld (some 3) (.t 6), none⟩,
        ⟨none, none, .st (some 3) (.t 1) (.t 40), none⟩] (some [1, 2, 5])) (
      .reg false [
        ⟨(some 41), none, .mv false (.t 5), none⟩,
        ⟨(some 42), none, .bin .add .i64 (.t 41) (.c (.int .i64 1)), none⟩,
        ⟨(some 5), none, .mv false (.t 42), none⟩] (some [1, 2, 5]))))))))) (
.seq (.reg false [
  ⟨(some 44), none, .call false 31 [(.c (.str [120])), (.c (.int .i64 65536))], none⟩,
  ⟨(some 45), none, .call false 11 [(.t 44)], none⟩,
  ⟨(some 43), none, .mv false (.t 45), none⟩,
  ⟨(some 46), none, .ext (.t 43) 0, none⟩,
  ⟨(some 47), none, .ext (.t 43) 1, none⟩,
  ⟨(some 8), none, .alloc [(.ls 3 []), (.ls 3 []), (.str [])], none⟩,
  ⟨none, none, .st (some 3) (.t 8) (.t 46), none⟩,
  ⟨(some 9), none, .mv false (.t 47), none⟩] (some [1, 2, 5, 8, 9])) (
.seq (.reg false [
  ⟨(some 49), none, .call false 31 [(.c (.str [120])), (.c (.int .i64 65537))], none⟩,
  ⟨(some 50), none, .call false 11 [(.t 49)], none⟩,
  ⟨(some 48), none, .mv false (.t 50), none⟩,
  ⟨(some 51), none, .ext (.t 48) 0, none⟩,
  ⟨(some 52), none, .ext (.t 48) 1, none⟩,
  ⟨(some 10), none, .alloc [(.ls 3 []), (.ls 3 []), (.str [])], none⟩,
  ⟨none, none, .st (some 3) (.t 10) (.t 51), none⟩,
  ⟨(some 11), none, .mv false (.t 52), none⟩] (some [1, 2, 5, 8, 9, 11])) (
.seq (.reg false [
  ⟨(some 54), none, .ld (some 3) (.t 8), none⟩,
  ⟨(some 55), none, .call false 19 [(.t 54), (.c (.int .i64 3)), (.c (.str [121]))], none⟩,
  ⟨(some 53), none, .mv false (.t 55), none⟩,
  ⟨(some 56), none, .ext (.t 53) 0, none⟩,
  ⟨(some 57), none, .ext (.t 53) 1, none⟩,
  ⟨(some 12), none, .alloc [(.ls 3 []), (.ls 3 []), (.str [])], none⟩,
  ⟨none, none, .st (some 3) (.t 12) (.t 56), none⟩,
  ⟨(some 13), none, .mv false (.t 57), none⟩] (some [1, 2, 5, 8, 9, 11, 13])) (
.seq (.reg false [
  ⟨(some 59), none, .call false 31 [(.c (.str [9])), (.c (.int .i64 65537))], none⟩,
  ⟨(some 60), none, .call false 11 [(.t 59)], none⟩,
  ⟨(some 58), none, .mv false (.t 60), none⟩,
  ⟨(some 61), none, .ext (.t 58) 0, none⟩,
  ⟨(some 62), none, .ext (.t 58) 1, none⟩,
  ⟨(some 14), none, .alloc [(.ls 3 []), (.ls 3 []), (.str [])], none⟩,
  ⟨none, none, .st (some 3) (.t 14) (.t 61), none⟩,
  ⟨(some 15), none, .mv false (.t 62), none⟩] (some [1, 2, 5, 8, 9, 11, 13, 15])) (
.seq (.reg false [
  ⟨(some 63), none, .mv false (.t 2), none⟩,
  ⟨(some 64), none, .bin .eql .i64 (.t 63) (.c (.int .i64 0)), none⟩,
  ⟨(some 65), none, .mv false (.t 64), none⟩,
  ⟨(some 66), some (65, true), .mv false (.t 5), none⟩,
  ⟨(some 67), some (65, true), .bin .eql .i64 (.t 66) (.c (.int .i64 256)), none⟩,
  ⟨(some 68), none, .pick (.t 65) (.t 67) (.c (.bool false)), none⟩,
  ⟨(some 69), none, .mv false (.t 68), none⟩,
  ⟨(some 70), some (69, true), .ld (some 3) (.t 1), none⟩,
  ⟨(some 71), some (69, true), .call false 14 [(.t 70)], none⟩,
  ⟨(some 72), some (69, true), .bin .eql .i64 (.t 71) (.c (.int .i64 44)), none⟩,
  ⟨(some 73), none, .pick (.t 69) (.t 72) (.c (.bool false)), none⟩,
  ⟨(some 74), none, .mv false (.t 73), none⟩,
  ⟨(some 75), some (74, true), .mv false (.t 9), none⟩,
  ⟨(some 76), some (74, true), .bin .eql .i64 (.t 75) (.c (.int .i64 0)), none⟩,
  ⟨(some 77), none, .pick (.t 74) (.t 76) (.c (.bool false)), none⟩,
  ⟨(some 78), none, .mv false (.t 77), none⟩,
  ⟨(some 79), some (78, true), .ld (some 3) (.t 8), none⟩,
  ⟨(some 80), some (78, true), .call false 14 [(.t 79)], none⟩,
  ⟨(some 81), some (78, true), .bin .eql .i64 (.t 80) (.c (.int .i64 65536)), none⟩,
  ⟨(some 82), none, .pick (.t 78) (.t 81) (.c (.bool false)), none⟩,
  ⟨(some 83), none, .mv false (.t 82), none⟩,
  ⟨(some 84), some (83, true), .mv false (.t 11), none⟩,
  ⟨(some 85), some (83, true), .bin .eql .i64 (.t 84) (.c (.int .i64 4)), none⟩,
  ⟨(some 86), none, .pick (.t 83) (.t 85) (.c (.bool false)), none⟩,
  ⟨(some 87), none, .mv false (.t 86), none⟩,
  ⟨(some 88), some (87, true), .mv false (.t 13), none⟩,
  ⟨(some 89), some (87, true), .bin .eql .i64 (.t 88) (.c (.int .i64 4)), none⟩,
  ⟨(some 90), none, .pick (.t 87) (.t 89) (.c (.bool false)), none⟩,
  ⟨(some 91), none, .mv false (.t 90), none⟩,
  ⟨(some 92), some (91, true), .mv false (.t 15), none⟩,
  ⟨(some 93), some (91, true), .bin .eql .i64 (.t 92) (.c (.int .i64 4)), none⟩,
  ⟨(some 94), none, .pick (.t 91) (.t 93) (.c (.bool false)), none⟩,
  ⟨(some 95), none, .mv false (.t 94), none⟩,
  ⟨(some 96), some (95, true), .call false 10 [], none⟩,
  ⟨(some 97), none, .pick (.t 95) (.t 96) (.c (.bool false)), none⟩,
  ⟨(some 0), none, .mv false (.t 97), none⟩] (some [0])) (
.ret))))))))))
set_option maxRecDepth 1000000 in
theorem comp_law54_BufferForgets : (Try.f9.body.bind fun code => compC Try.prog Try.f9.ntmps code c_law54_BufferForgets) = some c_law54_BufferForgets.bare := by kernel_rfl
def r_law54_BufferForgets : List R := [.t 0]
theorem spo_law54_BufferForgets {ds : List D} {d : D} (hn : Nat.ble ds.length 98 = true) (h : run TSpM gtab 0 c_law54_BufferForgets (retK r_law54_BufferForgets (· = d)) ⟨env0 0 ds, []⟩) : TSp 9 ds d := Sp_of mixed c_law54_BufferForgets r_law54_BufferForgets (fn := Try.f9) (by kernel_rfl) (by kernel_rfl) comp_law54_BufferForgets (by kernel_rfl) hn h
theorem spm_law54_BufferForgets {ds : List D} {d : D} {bx bx' : List Ent} (hn : Nat.ble ds.length 98 = true) (h : run TSpM gtab (sizeE bx) c_law54_BufferForgets (retG r_law54_BufferForgets (fun d1 bx1 => Rt (sizeE bx) bx1 d1 d bx')) ⟨env0 0 ds, bx⟩) : TSpM 9 ds bx d bx' := SpM_of mixed c_law54_BufferForgets r_law54_BufferForgets (fn := Try.f9) (by kernel_rfl) (by kernel_rfl) comp_law54_BufferForgets (by kernel_rfl) hn h
/-- glazier/glazierlaw54.awake -/
def c_law54_awake : C := .seq (.reg false [
  ⟨(some 0), none, .mv false (.c (.bool false)), none⟩] (some [])) (
.seq (.reg false [
  ⟨(some 12), none, .call false 11 [(.c (.str [97, 98]))], none⟩,
  ⟨(some 11), none, .mv false (.t 12), none⟩,
  ⟨(some 13), none, .ext (.t 11) 0, none⟩,
  ⟨(some 14), none, .ext (.t 11) 1, none⟩,
  ⟨(some 1), none, .alloc [(.ls 3 []), (.ls 3 []), (.str [])], none⟩,
  ⟨none, none, .st (some 3) (.t 1) (.t 13), none⟩,
  ⟨(some 2), none, .mv false (.t 14), none⟩] (some [1, 2])) (
.seq (.reg false [
  ⟨(some 16), none, .ld (some 3) (.t 1), none⟩,
  ⟨(some 17), none, .call false 19 [(.t 16), (.c (.int .i64 1)), (.c (.str [120]))], none⟩,
  ⟨(some 15), none, .mv false (.t 17), none⟩,
  ⟨(some 18), none, .ext (.t 15) 0, none⟩,
  ⟨(some 19), none, .ext (.t 15) 1, none⟩,
  ⟨none, none, .st (some 3) (.t 1) (.t 18), none⟩,
  ⟨(some 3), none, .mv false (.t 19), none⟩] (some [1, 2, 3])) (
.seq (.reg false [
  ⟨(some 21), none, .ld (some 3) (.t 1), none⟩,
  ⟨(some 22), none, .call false 20 [(.t 21), (.c (.int .i64 0)), (.c (.int .i64 1))], none⟩,
  ⟨(some 20), none, .mv false (.t 22), none⟩,
  ⟨(some 23), none, .ext (.t 20) 0, none⟩,
  ⟨(some 24), none, .ext (.t 20) 1, none⟩,
  ⟨none, none, .st (some 3) (.t 1) (.t 23), none⟩,
  ⟨(some 4), none, .mv false (.t 24), none⟩] (some [1, 2, 3, 4])) (
.seq (.reg false [
  ⟨(some 26), none, .ld (some 3) (.t 1), none⟩,
  ⟨(some 27), none, .call false 17 [(.t 26)], none⟩,
  ⟨(some 25), none, .mv false (.t 27), none⟩,
  ⟨(some 28), none, .ext (.t 25) 0, none⟩,
  ⟨(some 29), none, .ext (.t 25) 1, none⟩,
  ⟨(some 5), none, .alloc [(.ls 3 []), (.ls 3 []), (.str [])], none⟩,
  ⟨none, none, .st (some 3) (.t 5) (.t 28), none⟩,
  ⟨(some 6), none, .mv false (.t 29), none⟩] (some [1, 2, 3, 4, 5, 6])) (
.seq (.reg false [
  ⟨(some 31), none, .call false 11 [(.c (.str [97, 10, 98, 99]))], none⟩,
  ⟨(some 30), none, .mv false (.t 31), none⟩,
  ⟨(some 32), none, .ext (.t 30) 0, none⟩,
  ⟨(some 33), none, .ext (.t 30) 1, none⟩,
  ⟨(some 7), none, .alloc [(.ls 3 []), (.ls 3 []), (.str [])], none⟩,
  ⟨none, none, .st (some 3) (.t 7) (.t 32), none⟩,
  ⟨(some 8), none, .mv false (.t 33), none⟩] (some [1, 2, 3, 4, 5, 6, 7, 8])) (
.seq (.reg false [
  ⟨(some 35), none, .ld (some 3) (.t 7), none⟩,
  ⟨(some 36), none, .call false 24 [(.t 35), (.c (.int .i64 3))], none⟩,
  ⟨(some 34), none, .mv false (.t 36), none⟩,
  ⟨(some 37), none, .ext (.t 34) 0, none⟩,
  ⟨(some 38), none, .ext (.t 34) 1, none⟩,
  ⟨(some 9), none, .mv false (.t 37), none⟩,
  ⟨(some 10), none, .mv false (.t 38), none⟩] (some [1, 2, 3, 4, 5, 6, 8, 9, 10])) (
.seq (.reg false [
  ⟨(some 39), none, .mv false (.t 2), none⟩,
  ⟨(some 40), none, .bin .eql .i64 (.t 39) (.c (.int .i64 0)), none⟩,
  ⟨(some 41), none, .mv false (.t 40), none⟩,
  ⟨(some 42), some (41, true), .mv false (.t 3), none⟩,
  ⟨(some 43), some (41, true), .bin .eql .i64 (.t 42) (.c (.int .i64 0)), none⟩,
  ⟨(some 44), none, .pick (.t 41) (.t 43) (.c (.bool false)), none⟩,
  ⟨(some 45), none, .mv false (.t 44), none⟩,
  ⟨(some 46), some (45, true), .mv false (.t 4), none⟩,
  ⟨(some 47), some (45, true), .bin .eql .i64 (.t 46) (.c (.int .i64 0)), none⟩,
  ⟨(some 48), none, .pick (.t 45) (.t 47) (.c (.bool false)), none⟩,
  ⟨(some 49), none, .mv false (.t 48), none⟩,
  ⟨(some 50), some (49, true), .mv false (.t 6), none⟩,
  ⟨(some 51), none, .pick (.t 49) (.t 50) (.c (.bool false)), none⟩,
  ⟨(some 52), none, .mv false (.t 51), none⟩,
  ⟨(some 53), some (52, true), .ld (some 3) (.t 1), none⟩,
  ⟨(some 54), some (52, true), .call false 13 [(.t 53)], none⟩,
  ⟨(some 55), some (52, true), .eqb false true (.t 54) (.c (.str [120, 98])), none⟩,
  ⟨(some 56), none, .pick (.t 52) (.t 55) (.c (.bool false)), none⟩,
  ⟨(some 57), none, .mv false (.t 56), none⟩,
  ⟨(some 58), some (57, true), .ld (some 3) (.t 5), none⟩,
  ⟨(some 59), some (57, true), .call false 13 [(.t 58)], none⟩,
  ⟨(some 60), some (57, true), .eqb false true (.t 59) (.c (.str [97, 120, 98])), none⟩,
  ⟨(some 61), none, .pick (.t 57) (.t 60) (.c (.bool false)), none⟩,
  ⟨(some 62), none, .mv false (.t 61), none⟩,
  ⟨(some 63), some (62, true), .mv false (.t 8), none⟩,
  ⟨(some 64), some (62, true), .bin .eql .i64 (.t 63) (.c (.int .i64 0)), none⟩,
  ⟨(some 65), none, .pick (.t 62) (.t 64) (.c (.bool false)), none⟩,
  ⟨(some 66), none, .mv false (.t 65), none⟩,
  ⟨(some 67), some (66, true), .mv false (.t 9), none⟩,
  ⟨(some 68), some (66, true), .bin .eql .i64 (.t 67) (.c (.int .i64 1)), none⟩,
  ⟨(some 69), none, .pick (.t 66) (.t 68) (.c (.bool false)), none⟩,
  ⟨(some 70), none, .mv false (.t 69), none⟩,
  ⟨(some 71), some (70, true), .mv false (.t 10), none⟩,
  ⟨(some 72), some (70, true), .bin .eql .i64 (.t 71) (.c (.int .i64 1)), none⟩,
  ⟨(some 73), none, .pick (.t 70) (.t 72) (.c (.bool false)), none⟩,
  ⟨(some 0), none, .mv false (.t 73), none⟩] (some [0])) (
.ret))))))))
set_option maxRecDepth 1000000 in
theorem comp_law54_awake : (Try.f10.body.bind fun code => compC Try.prog Try.f10.ntmps code c_law54_awake) = some c_law54_awake.bare := by kernel_rfl
def r_law54_awake : List R := [.t 0]
theorem spo_law54_awake {ds : List D} {d : D} (hn : Nat.ble ds.length 74 = true) (h : run TSpM gtab 0 c_law54_awake (retK r_law54_awake (· = d)) ⟨env0 0 ds, []⟩) : TSp 10 ds d := Sp_of mixed c_law54_awake r_law54_awake (fn := Try.f10) (by kernel_rfl) (by kernel_rfl) comp_law54_awake (by kernel_rfl) hn h
theorem spm_law54_awake {ds : List D} {d : D} {bx bx' : List Ent} (hn : Nat.ble ds.length 74 = true) (h : run TSpM gtab (sizeE bx) c_law54_awake (retG r_law54_awake (fun d1 bx1 => Rt (sizeE bx) bx1 d1 d bx')) ⟨env0 0 ds, bx⟩) : TSpM 10 ds bx d bx' := SpM_of mixed c_law54_awake r_law54_awake (fn := Try.f10) (by kernel_rfl) (by kernel_rfl) comp_law54_awake (by kernel_rfl) hn h
/-- glazier/buffer.New -/
def c_buffer_New : C := .seq (.reg false [
  ⟨(some 2), none, .alloc [(.ls 3 []), (.ls 3 []), (.str [])], none⟩,
  ⟨(some 3), none, .mv false (.c (.int .i64 0)), none⟩] (some [0, 2])) (
.seq (.seq (.reg false [
  ⟨(some 4), none, .mv false (.t 0), none⟩,
  ⟨(some 5), none, .len true (.t 4), none⟩,
  ⟨(some 6), none, .bin .gtr .i64 (.t 5) (.c (.int .i64 65536)), none⟩] (some [0, 2, 6])) (
.ite (.t 6) (
  .seq (.reg false [
    ⟨(some 7), none, .bld [(.ls 3 []), (.ls 3 []), (.str [])] [], none⟩,
    ⟨none, none, .st (some 3) (.t 2) (.t 7), none⟩,
    ⟨(some 3), none, .mv false (.c (.int .i64 4)), none⟩] (some [2, 3])) (
  .ret)) (
  .skip))) (
.seq (.seq (.reg false [
  ⟨(some 8), none, .mv false (.t 0), none⟩,
  ⟨(some 9), none, .call false 32 [(.t 8)], none⟩,
  ⟨(some 10), none, .not (.t 9), none⟩] (some [0, 2, 10])) (
.ite (.t 10) (
  .seq (.reg false [
    ⟨(some 11), none, .bld [(.ls 3 []), (.ls 3 []), (.str [])] [], none⟩,
    ⟨none, none, .st (some 3) (.t 2) (.t 11), none⟩,
    ⟨(some 3), none, .mv false (.c (.int .i64 2)), none⟩] (some [2, 3])) (
  .ret)) (
  .skip))) (
.seq (.reg false [
  ⟨(some 12), none, .mv false (.t 0), none⟩,
  ⟨(some 13), none, .bld [(.ls 3 []), (.ls 3 []), (.str [])] [(2, none, (.t 12))], none⟩,
  ⟨none, none, .st (some 3) (.t 2) (.t 13), none⟩,
  ⟨(some 3), none, .mv false (.c (.int .i64 0)), none⟩] (some [2, 3])) (
.ret))))
set_option maxRecDepth 1000000 in
theorem comp_buffer_New : (Try.f11.body.bind fun code => compC Try.prog Try.f11.ntmps code c_buffer_New) = some c_buffer_New.bare := by kernel_rfl
def r_buffer_New : List R := [.cell 2 (some 3), .t 3]
theorem spo_buffer_New {ds : List D} {d : D} (hn : Nat.ble ds.length 14 = true) (h : run TSpM gtab 0 c_buffer_New (retK r_buffer_New (· = d)) ⟨env0 0 ds, []⟩) : TSp 11 ds d := Sp_of mixed c_buffer_New r_buffer_New (fn := Try.f11) (by kernel_rfl) (by kernel_rfl) comp_buffer_New (by kernel_rfl) hn h
theorem spm_buffer_New {ds : List D} {d : D} {bx bx' : List Ent} (hn : Nat.ble ds.length 14 = true) (h : run TSpM gtab (sizeE bx) c_buffer_New (retG r_buffer_New (fun d1 bx1 => Rt (sizeE bx) bx1 d1 d bx')) ⟨env0 0 ds, bx⟩) : TSpM 11 ds bx d bx' := SpM_of mixed c_buffer_New r_buffer_New (fn := Try.f11) (by kernel_rfl) (by kernel_rfl) comp_buffer_New (by kernel_rfl) hn h
/-- glazier/glazierref54.Form -/
def c_ref54_Form : C := .seq (.reg false [
  ⟨(some 2), none, .mv false (.c (.bool false)), none⟩] (some [0])) (
.seq (.seq (.reg false [
  ⟨(some 3), none, .mv false (.c (.int .i64 0)), none⟩] (some [0, 3])) (
.blk 0 (
  .loop (
    .seq (.seq (.reg false [
      ⟨(some 4), none, .mv false (.t 3), none⟩,
      ⟨(some 5), none, .mv false (.t 0), none⟩,
      ⟨(some 6), none, .len true (.t 5), none⟩,
      ⟨(some 7), none, .bin .lss .i64 (.t 4) (.t 6), none⟩] (some [0, 3, 7])) (
    .ite (.t 7) (
      .skip) (
      .exit 0))) (
    .seq (.blk 1 (
      .seq (.reg false [
        ⟨(some 10), none, .mv false (.t 0), none⟩,
        ⟨(some 11), none, .mv false (.t 3), none⟩,
        ⟨(some 12), none, .sidx (.t 10) (.t 11), none⟩,
        ⟨(some 13), none, .bin .neq .u8 (.t 12) (.c (.int .u8 10)), none⟩,
        ⟨(some 14), none, .mv false (.t 13), none⟩,
        ⟨(some 15), some (14, true), .mv false (.t 0), none⟩,
        ⟨(some 16), some (14, true), .mv false (.t 3), none⟩,
        ⟨(some 17), some (14, true), .sidx (.t 15) (.t 16), none⟩,
        ⟨(some 18), some (14, true), .bin .lss .u8 (.t 17) (.c (.int .u8 32)), none⟩,
        ⟨(some 19), some (14, true), .mv false (.t 18), none⟩,
        ⟨(some 20), some (19, false), .mv false (.t 0), none⟩,
        ⟨(some 21), some (19, false), .mv false (.t 3), none⟩,
        ⟨(some 22), some (19, false), .sidx (.t 20) (.t 21), none⟩,
        ⟨(some 23), some (19, false), .bin .gtr .u8 (.t 22) (.c (.int .u8 126)), none⟩,
        ⟨(some 24), some (14, true), .pick (.t 19) (.c (.bool true)) (.t 23), none⟩,
        ⟨(some 25), none, .pick (.t 14) (.t 24) (.c (.bool false)), none⟩] (some [0, 3, 25])) (
      .ite (.t 25) (
        .seq (.reg false [
          ⟨(some 2), none, .mv false (.c (.bool false)), none⟩] (some [2])) (
        .ret)) (
        .skip)))) (
    .reg false [
      ⟨(some 8), none, .mv false (.t 3), none⟩,
      ⟨(some 9), none, .bin .add .i64 (.t 8) (.c (.int .i64 1)), none⟩,
      ⟨(some 3), none, .mv false (.t 9), none⟩] (some [0, 3]))))))) (
.seq (.reg false [
  ⟨(some 2), none, .mv false (.c (.bool true)), none⟩] (some [2])) (
.ret)))
set_option maxRecDepth 1000000 in
theorem comp_ref54_Form : (Try.f12.body.bind fun code => compC Try.prog Try.f12.ntmps code c_ref54_Form) = some c_ref54_Form.bare := by kernel_rfl
def r_ref54_Form : List R := [.t 2]
theorem spo_ref54_Form {ds : List D} {d : D} (hn : Nat.ble ds.length 26 = true) (h : run TSpM gtab 0 c_ref54_Form (retK r_ref54_Form (· = d)) ⟨env0 0 ds, []⟩) : TSp 12 ds d := Sp_of mixed c_ref54_Form r_ref54_Form (fn := Try.f12) (by kernel_rfl) (by kernel_rfl) comp_ref54_Form (by kernel_rfl) hn h
theorem spm_ref54_Form {ds : List D} {d : D} {bx bx' : List Ent} (hn : Nat.ble ds.length 26 = true) (h : run TSpM gtab (sizeE bx) c_ref54_Form (retG r_ref54_Form (fun d1 bx1 => Rt (sizeE bx) bx1 d1 d bx')) ⟨env0 0 ds, bx⟩) : TSpM 12 ds bx d bx' := SpM_of mixed c_ref54_Form r_ref54_Form (fn := Try.f12) (by kernel_rfl) (by kernel_rfl) comp_ref54_Form (by kernel_rfl) hn h
/-- (glazier/buffer.Buffer).Text -/
def c_buffer_Buffer_Text : C := .seq (.reg false [
  ⟨(some 1), none, .box true (.t 0), none⟩,
  ⟨(some 2), none, .mv false (.c (.str [])), none⟩] (some [1])) (
.seq (.reg false [
  ⟨(some 3), none, .fld 2 (.t 1), none⟩,
  ⟨(some 4), none, .ld none (.t 3), none⟩,
  ⟨(some 2), none, .mv false (.t 4), none⟩] (some [2])) (
.ret))
set_option maxRecDepth 1000000 in
theorem comp_buffer_Buffer_Text : (Try.f13.body.bind fun code => compC Try.prog Try.f13.ntmps code c_buffer_Buffer_Text) = some c_buffer_Buffer_Text.bare := by kernel_rfl
def r_buffer_Buffer_Text : List R := [.t 2]
theorem spo_buffer_Buffer_Text {ds : List D} {d : D} (hn : Nat.ble ds.length 5 = true) (h : run TSpM gtab 0 c_buffer_Buffer_Text (retK r_buffer_Buffer_Text (· = d)) ⟨env0 0 ds, []⟩) : TSp 13 ds d := Sp_of mixed c_buffer_Buffer_Text r_buffer_Buffer_Text (fn := Try.f13) (by kernel_rfl) (by kernel_rfl) comp_buffer_Buffer_Text (by kernel_rfl) hn h
theorem spm_buffer_Buffer_Text {ds : List D} {d : D} {bx bx' : List Ent} (hn : Nat.ble ds.length 5 = true) (h : run TSpM gtab (sizeE bx) c_buffer_Buffer_Text (retG r_buffer_Buffer_Text (fun d1 bx1 => Rt (sizeE bx) bx1 d1 d bx')) ⟨env0 0 ds, bx⟩) : TSpM 13 ds bx d bx' := SpM_of mixed c_buffer_Buffer_Text r_buffer_Buffer_Text (fn := Try.f13) (by kernel_rfl) (by kernel_rfl) comp_buffer_Buffer_Text (by kernel_rfl) hn h
/-- (glazier/buffer.Buffer).Len -/
def c_buffer_Buffer_Len : C := .seq (.reg false [
  ⟨(some 1), none, .box true (.t 0), none⟩,
  ⟨(some 2), none, .mv false (.c (.int .i64 0)), none⟩] (some [1])) (
.seq (.reg false [
  ⟨(some 3), none, .fld 2 (.t 1), none⟩,
  ⟨(some 4), none, .ld none (.t 3), none⟩,
  ⟨(some 5), none, .len true (.t 4), none⟩,
  ⟨(some 2), none, .mv false (.t 5), none⟩] (some [2])) (
.ret))
set_option maxRecDepth 1000000 in
theorem comp_buffer_Buffer_Len : (Try.f14.body.bind fun code => compC Try.prog Try.f14.ntmps code c_buffer_Buffer_Len) = some c_buffer_Buffer_Len.bare := by kernel_rfl
def r_buffer_Buffer_Len : List R := [.t 2]
theorem spo_buffer_Buffer_Len {ds : List D} {d : D} (hn : Nat.ble ds.length 6 = true) (h : run TSpM gtab 0 c_buffer_Buffer_Len (retK r_buffer_Buffer_Len (· = d)) ⟨env0 0 ds, []⟩) : TSp 14 ds d := Sp_of mixed c_buffer_Buffer_Len r_buffer_Buffer_Len (fn := Try.f14) (by kernel_rfl) (by kernel_rfl) comp_buffer_Buffer_Len (by kernel_rfl) hn h
theorem spm_buffer_Buffer_Len {ds : List D} {d : D} {bx bx' : List Ent} (hn : Nat.ble ds.length 6 = true) (h : run TSpM gtab (sizeE bx) c_buffer_Buffer_Len (retG r_buffer_Buffer_Len (fun d1 bx1 => Rt (sizeE bx) bx1 d1 d bx')) ⟨env0 0 ds, bx⟩) : TSpM 14 ds bx d bx' := SpM_of mixed c_buffer_Buffer_Len r_buffer_Buffer_Len (fn := Try.f14) (by kernel_rfl) (by kernel_rfl) comp_buffer_Buffer_Len (by kernel_rfl) hn h
/-- glazier/glazierlaw54.Few -/
def c_law54_Few : C := .seq (.reg false [
  ⟨(some 4), none, .mv false (.c (.bool false)), none⟩] (some [0, 1])) (
.seq (.seq (.reg false [
  ⟨(some 7), none, .mv false (.t 1), none⟩,
  ⟨(some 8), none, .len false (.t 7), none⟩,
  ⟨(some 9), none, .mv false (.c (.int .i64 0)), none⟩] (some [0, 1, 7, 8, 9])) (
.blk 0 (
  .loop (
    .seq (.reg false [
      ⟨(some 10), none, .bin .lss .i64 (.t 9) (.t 8), none⟩] (some [0, 1, 7, 8, 9, 10])) (
    .seq (.ite (.t 10) (
      .skip) (
      .exit 0)) (
    .seq (.blk 1 (
      .seq (.reg false [
        ⟨(some 11), none, .ixs 4 (.t 7) (.t 9), none⟩,
        ⟨(some 12), none, .ld (some 4) (.t 11), none⟩,
        ⟨(some 6), none, .alloc [(.int .u8 0), (.int .i64 0), (.int .i64 0), (.str [])], none⟩,
        ⟨none, none, .st (some 4) (.t 6) (.t 12), none⟩] (some [0, 1, 6, 7, 8, 9])) (
      .seq (.reg false [
        ⟨(some 13), none, .fld 3 (.t 6), none⟩,
        ⟨(some 14), none, .ld none (.t 13), none⟩,
        ⟨(some 15), none, .len true (.t 14), none⟩,
        ⟨(some 16), none, .bin .gtr .i64 (.t 15) (.c (.int .i64 60)), none⟩] (some [0, 1, 7, 8, 9, 16])) (
      .ite (.t 16) (
        .seq (.reg false [
          ⟨(some 4), none, .mv false (.c (.bool false)), none⟩] (some [4])) (
        .ret)) (
        .skip))))) (
    .reg false [
      ⟨(some 17), none, .bin .add .i64 (.t 9) (.c (.int .i64 1)), none⟩,
      ⟨(some 9), none, .mv false (.t 17), none⟩] (some [0, 1, 7, 8, 9])))))))) (
.seq (.reg false [
  ⟨(some 18), none, .mv false (.t 0), none⟩,
  ⟨(some 19), none, .len true (.t 18), none⟩,
  ⟨(some 20), none, .bin .leq .i64 (.t 19) (.c (.int .i64 300)), none⟩,
  ⟨(some 21), none, .mv false (.t 20), none⟩,
  ⟨(some 22), some (21, true), .mv false (.t 1), none⟩,
  ⟨(some 23), some (21, true), .len false (.t 22), none⟩,
  ⟨(some 24), some (21, true), .bin .leq .i64 (.t 23) (.c (.int .i64 40)), none⟩,
  ⟨(some 25), none, .pick (.t 21) (.t 24) (.c (.bool false)), none⟩,
  ⟨(some 4), none, .mv false (.t 25), none⟩] (some [4])) (
.ret)))
set_option maxRecDepth 1000000 in
theorem comp_law54_Few : (Try.f15.body.bind fun code => compC Try.prog Try.f15.ntmps code c_law54_Few) = some c_law54_Few.bare := by kernel_rfl
def r_law54_Few : List R := [.t 4]
theorem spo_law54_Few {ds : List D} {d : D} (hn : Nat.ble ds.length 26 = true) (h : run TSpM gtab 0 c_law54_Few (retK r_law54_Few (· = d)) ⟨env0 0 ds, []⟩) : TSp 15 ds d := Sp_of mixed c_law54_Few r_law54_Few (fn := Try.f15) (by kernel_rfl) (by kernel_rfl) comp_law54_Few (by kernel_rfl) hn h
theorem spm_law54_Few {ds : List D} {d : D} {bx bx' : List Ent} (hn : Nat.ble ds.length 26 = true) (h : run TSpM gtab (sizeE bx) c_law54_Few (retG r_law54_Few (fun d1 bx1 => Rt (sizeE bx) bx1 d1 d bx')) ⟨env0 0 ds, bx⟩) : TSpM 15 ds bx d bx' := SpM_of mixed c_law54_Few r_law54_Few (fn := Try.f15) (by kernel_rfl) (by kernel_rfl) comp_law54_Few (by kernel_rfl) hn h
/-- (glazier/glazierlaw54.Act).Play -/
def c_law54_Act_Play : C := .seq (.reg false [
  ⟨(some 2), none, .box true (.t 0), none⟩,
  ⟨(some 3), none, .box true (.t 1), none⟩,
  ⟨(some 4), none, .alloc [(.ls 3 []), (.ls 3 []), (.str [])], none⟩,
  ⟨(some 5), none, .mv false (.c (.int .i64 0)), none⟩,
  ⟨(some 6), none, .mv false (.c (.bool false)), none⟩] (some [2, 3, 4])) (
.seq (.seq (.reg false [
  ⟨(some 15), none, .fld 0 (.t 2), none⟩,
  ⟨(some 16), none, .ld none (.t 15), none⟩,
  ⟨(some 17), none, .bin .rem .u8 (.t 16) (.c (.int .u8 4)), none⟩] (some [2, 3, 4, 17])) (
.blk 0 (
  .seq (.reg false [
    ⟨(some 19), none, .bin .eql .u8 (.t 17) (.c (.int .u8 0)), none⟩,
    ⟨(some 18), none, .mv false (.t 19), none⟩] (some [2, 3, 4, 17, 18])) (
  .ite (.t 18) (
    .seq (.reg false [
      ⟨(some 21), none, .ld (some 3) (.t 3), none⟩,
      ⟨(some 22), none, .fld 1 (.t 2), none⟩,
      ⟨(some 23), none, .ld none (.t 22), none⟩,
      ⟨(some 24), none, .fld 3 (.t 2), none⟩,
      ⟨(some 25), none, .ld none (.t 24), none⟩,
      ⟨(some 26), none, .call false 19 [(.t 21), (.t 23), (.t 25)], none⟩,
      ⟨(some 20), none, .mv false (.t 26), none⟩,
      ⟨(some 27), none, .ext (.t 20) 0, none⟩,
      ⟨(some 28), none, .ext (.t 20) 1, none⟩,
      ⟨(some 7), none, .alloc [(.ls 3 []), (.ls 3 []), (.str [])], none⟩,
      ⟨none, none, .st (some 3) (.t 7) (.t 27), none⟩,
      ⟨(some 8), none, .mv false (.t 28), none⟩] (some [4, 7, 8])) (
    .seq (.reg false [
      ⟨(some 29), none, .ld (some 3) (.t 7), none⟩,
      ⟨(some 30), none, .mv false (.t 8), none⟩,
      ⟨(some 31), none, .mv false (.t 8), none⟩,
      ⟨(some 32), none, .bin .eql .i64 (.t 31) (.c (.int .i64 0)), none⟩,
      ⟨none, none, .st (some 3) (.t 4) (.t 29), none⟩,
      ⟨(some 5), none, .mv false (.t 30), none⟩,
      ⟨(some 6), none, .mv false (.t 32), none⟩] (some [4, 5, 6])) (
    .ret))) (
    .seq (.reg false [
      ⟨(some 34), none, .bin .eql .u8 (.t 17) (.c (.int .u8 1)), none⟩,
      ⟨(some 33), none, .mv false (.t 34), none⟩] (some [2, 3, 4, 17, 33])) (
    .ite (.t 33) (
      .seq (.reg false [
        ⟨(some 36), none, .ld (some 3) (.t 3), none⟩,
        ⟨(some 37), none, .fld 1 (.t 2), none⟩,
        ⟨(some 38), none, .ld none (.t 37), none⟩,
        ⟨(some 39), none, .fld 2 (.t 2), none⟩,
        ⟨(some 40), none, .ld none (.t 39), none⟩,
        ⟨(some 41), none, .call false 20 [(.t 36), (.t 38), (.t 40)], none⟩,
        ⟨(some 35), none, .mv false (.t 41), none⟩,
        ⟨(some 42), none, .ext (.t 35) 0, none⟩,
        ⟨(some 43), none, .ext (.t 35) 1, none⟩,
        ⟨(some 9), none, .alloc [(.ls 3 []), (.ls 3 []), (.str [])], none⟩,
        ⟨none, none, .st (some 3) (.t 9) (.t 42), none⟩,
        ⟨(some 10), none, .mv false (.t 43), none⟩] (some [4, 9, 10])) (
      .seq (.reg false [
        ⟨(some 44), none, .ld (some 3) (.t 9), none⟩,
        ⟨(some 45), none, .mv false (.t 10), none⟩,
        ⟨(some 46), none, .mv false (.t 10), none⟩,
        ⟨(some 47), none, .bin .eql .i64 (.t 46) (.c (.int .i64 0)), none⟩,
        ⟨none, none, .st (some 3) (.t 4) (.t 44), none⟩,
        ⟨(some 5), none, .mv false (.t 45), none⟩,
        ⟨(some 6), none, .mv false (.t 47), none⟩] (some [4, 5, 6])) (
      .ret))) (
      .seq (.reg false [
        ⟨(some 49), none, .bin .eql .u8 (.t 17) (.c (.int .u8 2)), none⟩,
        ⟨(some 48), none, .mv false (.t 49), none⟩] (some [3, 4, 48])) (
      .ite (.t 48) (
        .seq (.reg false [
          ⟨(some 51), none, .ld (some 3) (.t 3), none⟩,
          ⟨(some 52), none, .call false 17 [(.t 51)], none⟩,
          ⟨(some 50), none, .mv false (.t 52), none⟩,
          ⟨(some 53), none, .ext (.t 50) 0, none⟩,
          ⟨(some 54), none, .ext (.t 50) 1, none⟩,
          ⟨(some 11), none, .alloc [(.ls 3 []), (.ls 3 []), (.str [])], none⟩,
          ⟨none, none, .st (some 3) (.t 11) (.t 53), none⟩,
          ⟨(some 12), none, .mv false (.t 54), none⟩] (some [4, 11, 12])) (
        .seq (.reg false [
          ⟨(some 55), none, .ld (some 3) (.t 11), none⟩,
          ⟨(some 56), none, .mv false (.t 12), none⟩,
          ⟨none, none, .st (some 3) (.t 4) (.t 55), none⟩,
          ⟨(some 5), none, .mv false (.c (.int .i64 0)), none⟩,
          ⟨(some 6), none, .mv false (.t 56), none⟩] (some [4, 5, 6])) (
        .ret))) (
        .skip))))))))) (
.seq (.reg false [
  ⟨(some 58), none, .ld (some 3) (.t 3), none⟩,
  ⟨(some 59), none, .call false 18 [(.t 58)], none⟩,
  ⟨(some 57), none, .mv false (.t 59), none⟩,
  ⟨(some 60), none, .ext (.t 57) 0, none⟩,
  ⟨(some 61), none, .ext (.t 57) 1, none⟩,
  ⟨(some 13), none, .alloc [(.ls 3 []), (.ls 3 []), (.str [])], none⟩,
  ⟨none, none, .st (some 3) (.t 13) (.t 60), none⟩,
  ⟨(some 14), none, .mv false (.t 61), none⟩] (some [4, 13, 14])) (
.seq (.reg false [
  ⟨(some 62), none, .ld (some 3) (.t 13), none⟩,
  ⟨(some 63), none, .mv false (.t 14), none⟩,
  ⟨none, none, .st (some 3) (.t 4) (.t 62), none⟩,
  ⟨(some 5), none, .mv false (.c (.int .i64 0)), none⟩,
  ⟨(some 6), none, .mv false (.t 63), none⟩] (some [4, 5, 6])) (
.ret))))
set_option maxRecDepth 1000000 in
theorem comp_law54_Act_Play : (Try.f16.body.bind fun code => compC Try.prog Try.f16.ntmps code c_law54_Act_Play) = some c_law54_Act_Play.bare := by kernel_rfl
def r_law54_Act_Play : List R := [.cell 4 (some 3), .t 5, .t 6]
theorem spo_law54_Act_Play {ds : List D} {d : D} (hn : Nat.ble ds.length 64 = true) (h : run TSpM gtab 0 c_law54_Act_Play (retK r_law54_Act_Play (· = d)) ⟨env0 0 ds, []⟩) : TSp 16 ds d := Sp_of mixed c_law54_Act_Play r_law54_Act_Play (fn := Try.f16) (by kernel_rfl) (by kernel_rfl) comp_law54_Act_Play (by kernel_rfl) hn h
theorem spm_law54_Act_Play {ds : List D} {d : D} {bx bx' : List Ent} (hn : Nat.ble ds.length 64 = true) (h : run TSpM gtab (sizeE bx) c_law54_Act_Play (retG r_law54_Act_Play (fun d1 bx1 => Rt (sizeE bx) bx1 d1 d bx')) ⟨env0 0 ds, bx⟩) : TSpM 16 ds bx d bx' := SpM_of mixed c_law54_Act_Play r_law54_Act_Play (fn := Try.f16) (by kernel_rfl) (by kernel_rfl) comp_law54_Act_Play (by kernel_rfl) hn h
/-- (glazier/buffer.Buffer).Undo -/
def c_buffer_Buffer_Undo : C := .seq (.reg false [
  ⟨(some 1), none, .box true (.t 0), none⟩,
  ⟨(some 2), none, .alloc [(.ls 3 []), (.ls 3 []), (.str [])], none⟩,
  ⟨(some 3), none, .mv false (.c (.bool false)), none⟩] (some [1, 2])) (
.seq (.seq (.reg false [
  ⟨(some 5), none, .fld 0 (.t 1), none⟩,
  ⟨(some 6), none, .fld 0 (.t 5), none⟩,
  ⟨(some 7), none, .ld (some 1) (.t 6), none⟩,
  ⟨(some 8), none, .call false 33 [(.t 7)], none⟩,
  ⟨(some 9), none, .bin .eql .i64 (.t 8) (.c (.int .i64 0)), none⟩] (some [1, 2, 9])) (
.ite (.t 9) (
  .seq (.reg false [
    ⟨(some 10), none, .ld (some 3) (.t 1), none⟩,
    ⟨none, none, .st (some 3) (.t 2) (.t 10), none⟩,
    ⟨(some 3), none, .mv false (.c (.bool false)), none⟩] (some [2, 3])) (
  .ret)) (
  .skip))) (
.seq (.reg false [
  ⟨(some 11), none, .fld 0 (.t 1), none⟩,
  ⟨(some 12), none, .fld 0 (.t 11), none⟩,
  ⟨(some 13), none, .ld (some 1) (.t 12), none⟩,
  ⟨(some 14), none, .call false 34 [(.t 13)], none⟩,
  ⟨(some 4), none, .alloc [(.int .i64 0), (.str []), (.str [])], none⟩,
  ⟨none, none, .st (some 3) (.t 4) (.t 14), none⟩] (some [1, 2, 4])) (
.seq (.reg true [
  ⟨(some 15), none, .fld 0 (.t 1), none⟩,
  ⟨(some 16), none, .fld 0 (.t 15), none⟩,
  ⟨(some 17), none, .ld (some 1) (.t 16), none⟩,
  ⟨(some 18), none, .call false 35 [(.t 17)], none⟩,
  ⟨(some 19), none, .bld [(.ls 3 [])] [(0, (some 1), (.t 18))], none⟩,
  ⟨(some 20), none, .fld 1 (.t 1), none⟩,
  ⟨(some 21), none, .fld 0 (.t 20), none⟩,
  ⟨(some 22), none, .ld (some 1) (.t 21), none⟩,
  ⟨(some 23), none, .ld (some 3) (.t 4), none⟩,
  ⟨(some 24), none, .call false 36 [(.t 22), (.t 23)], none⟩,
  ⟨(some 25), none, .bld [(.ls 3 [])] [(0, (some 1), (.t 24))], none⟩,
  ⟨(some 26), none, .fld 2 (.t 1), none⟩,
  ⟨(some 27), none, .ld none (.t 26), none⟩,
  ⟨(some 28), none, .fld 0 (.t 4), none⟩,
  ⟨(some 29), none, .ld none (.t 28), none⟩,
  ⟨(some 30), none, .sst (.t 27) none (some (.t 29)), none⟩,
  ⟨(some 31), none, .fld 1 (.t 4), none⟩,
  ⟨(some 32), none, .ld none (.t 31), none⟩,
  ⟨(some 33), none, .cat (.t 30) (.t 32), none⟩,
  ⟨(some 34), none, .fld 2 (.t 1), none⟩,
  ⟨(some 35), none, .ld none (.t 34), none⟩,
  ⟨(some 36), none, .fld 0 (.t 4), none⟩,
  ⟨(some 37), none, .ld none (.t 36), none⟩,
  ⟨(some 38), none, .fld 2 (.t 4), none⟩,
  ⟨(some 39), none, .ld none (.t 38), none⟩,
  ⟨(some 40), none, .len true (.t 39), none⟩,
  ⟨(some 41), none, .bin .add .i64 (.t 37) (.t 40), none⟩,
  ⟨(some 42), none, .sst (.t 35) (some (.t 41)) none, none⟩,
  ⟨(some 43), none, .cat (.t 33) (.t 42), none⟩,
  ⟨(some 44), none, .bld [(.ls 3 []), (.ls 3 []), (.str [])] [(0, (some 1), (.t 19)), (1, (some 1), (.t 25)), (2, none, (.t 43))], none⟩,
  ⟨none, none, .st (some 3) (.t 2) (.t 44), none⟩,
  ⟨(some 3), none, .mv false (.c (.bool true)), none⟩] (some [2, 3])) (
.ret))))
set_option maxRecDepth 1000000 in
theorem comp_buffer_Buffer_Undo : (Try.f17.body.bind fun code => compC Try.prog Try.f17.ntmps code c_buffer_Buffer_Undo) = some c_buffer_Buffer_Undo.bare := by kernel_rfl
def r_buffer_Buffer_Undo : List R := [.cell 2 (some 3), .t 3]
theorem spo_buffer_Buffer_Undo {ds : List D} {d : D} (hn : Nat.ble ds.length 45 = true) (h : run TSpM gtab 0 c_buffer_Buffer_Undo (retK r_buffer_Buffer_Undo (· = d)) ⟨env0 0 ds, []⟩) : TSp 17 ds d := Sp_of mixed c_buffer_Buffer_Undo r_buffer_Buffer_Undo (fn := Try.f17) (by kernel_rfl) (by kernel_rfl) comp_buffer_Buffer_Undo (by kernel_rfl) hn h
theorem spm_buffer_Buffer_Undo {ds : List D} {d : D} {bx bx' : List Ent} (hn : Nat.ble ds.length 45 = true) (h : run TSpM gtab (sizeE bx) c_buffer_Buffer_Undo (retG r_buffer_Buffer_Undo (fun d1 bx1 => Rt (sizeE bx) bx1 d1 d bx')) ⟨env0 0 ds, bx⟩) : TSpM 17 ds bx d bx' := SpM_of mixed c_buffer_Buffer_Undo r_buffer_Buffer_Undo (fn := Try.f17) (by kernel_rfl) (by kernel_rfl) comp_buffer_Buffer_Undo (by kernel_rfl) hn h
/-- (glazier/buffer.Buffer).Redo -/
def c_buffer_Buffer_Redo : C := .seq (.reg false [
  ⟨(some 1), none, .box true (.t 0), none⟩,
  ⟨(some 2), none, .alloc [(.ls 3 []), (.ls 3 []), (.str [])], none⟩,
  ⟨(some 3), none, .mv false (.c (.bool false)), none⟩] (some [1, 2])) (
.seq (.seq (.reg false [
  ⟨(some 5), none, .fld 1 (.t 1), none⟩,
  ⟨(some 6), none, .fld 0 (.t 5), none⟩,
  ⟨(some 7), none, .ld (some 1) (.t 6), none⟩,
  ⟨(some 8), none, .call false 33 [(.t 7)], none⟩,
  ⟨(some 9), none, .bin .eql .i64 (.t 8) (.c (.int .i64 0)), none⟩] (some [1, 2, 9])) (
.ite (.t 9) (
  .seq (.reg false [
    ⟨(some 10), none, .ld (some 3) (.t 1), none⟩,
    ⟨none, none, .st (some 3) (.t 2) (.t 10), none⟩,
    ⟨(some 3), none, .mv false (.c (.bool false)), none⟩] (some [2, 3])) (
  .ret)) (
  .skip))) (
.seq (.reg false [
  ⟨(some 11), none, .fld 1 (.t 1), none⟩,
  ⟨(some 12), none, .fld 0 (.t 11), none⟩,
  ⟨(some 13), none, .ld (some 1) (.t 12), none⟩,
  ⟨(some 14), none, .call false 34 [(.t 13)], none⟩,
  ⟨(some 4), none, .alloc [(.int .i64 0), (.str []), (.str [])], none⟩,
  ⟨none, none, .st (some 3) (.t 4) (.t 14), none⟩] (some [1, 2, 4])) (
.seq (.reg true [
  ⟨(some 15), none, .fld 0 (.t 1), none⟩,
  ⟨(some 16), none, .fld 0 (.t 15), none⟩,
  ⟨(some 17), none, .ld (some 1) (.t 16), none⟩,
  ⟨(some 18), none, .ld (some 3) (.t 4), none⟩,
  ⟨(some 19), none, .call false 36 [(.t 17), (.t 18)], none⟩,
  ⟨(some 20), none, .bld [(.ls 3 [])] [(0, (some 1), (.t 19))], none⟩,
  ⟨(some 21), none, .fld 1 (.t 1), none⟩,
  ⟨(some 22), none, .fld 0 (.t 21), none⟩,
  ⟨(some 23), none, .ld (some 1) (.t 22), none⟩,
  ⟨(some 24), none, .call false 35 [(.t 23)], none⟩,
  ⟨(some 25), none, .bld [(.ls 3 [])] [(0, (some 1), (.t 24))], none⟩,
  ⟨(some 26), none, .fld 2 (.t 1), none⟩,
  ⟨(some 27), none, .ld none (.t 26), none⟩,
  ⟨(some 28), none, .fld 0 (.t 4), none⟩,
  ⟨(some 29), none, .ld none (.t 28), none⟩,
  ⟨(some 30), none, .sst (.t 27) none (some (.t 29)), none⟩,
  ⟨(some 31), none, .fld 2 (.t 4), none⟩,
  ⟨(some 32), none, .ld none (.t 31), none⟩,
  ⟨(some 33), none, .cat (.t 30) (.t 32), none⟩,
  ⟨(some 34), none, .fld 2 (.t 1), none⟩,
  ⟨(some 35), none, .ld none (.t 34), none⟩,
  ⟨(some 36), none, .fld 0 (.t 4), none⟩,
  ⟨(some 37), none, .ld none (.t 36), none⟩,
  ⟨(some 38), none, .fld 1 (.t 4), none⟩,
  ⟨(some 39), none, .ld none (.t 38), none⟩,
  ⟨(some 40), none, .len true (.t 39), none⟩,
  ⟨(some 41), none, .bin .add .i64 (.t 37) (.t 40), none⟩,
  ⟨(some 42), none, .sst (.t 35) (some (.t 41)) none, none⟩,
  ⟨(some 43), none, .cat (.t 33) (.t 42), none⟩,
  ⟨(some 44), none, .bld [(.ls 3 []), (.ls 3 []), (.str [])] [(0, (some 1), (.t 20)), (1, (some 1), (.t 25)), (2, none, (.t 43))], none⟩,
  ⟨none, none, .st (some 3) (.t 2) (.t 44), none⟩,
  ⟨(some 3), none, .mv false (.c (.bool true)), none⟩] (some [2, 3])) (
.ret))))
set_option maxRecDepth 1000000 in
theorem comp_buffer_Buffer_Redo : (Try.f18.body.bind fun code => compC Try.prog Try.f18.ntmps code c_buffer_Buffer_Redo) = some c_buffer_Buffer_Redo.bare := by kernel_rfl
def r_buffer_Buffer_Redo : List R := [.cell 2 (some 3), .t 3]
theorem spo_buffer_Buffer_Redo {ds : List D} {d : D} (hn : Nat.ble ds.length 45 = true) (h : run TSpM gtab 0 c_buffer_Buffer_Redo (retK r_buffer_Buffer_Redo (· = d)) ⟨env0 0 ds, []⟩) : TSp 18 ds d := Sp_of mixed c_buffer_Buffer_Redo r_buffer_Buffer_Redo (fn := Try.f18) (by kernel_rfl) (by kernel_rfl) comp_buffer_Buffer_Redo (by kernel_rfl) hn h
theorem spm_buffer_Buffer_Redo {ds : List D} {d : D} {bx bx' : List Ent} (hn : Nat.ble ds.length 45 = true) (h : run TSpM gtab (sizeE bx) c_buffer_Buffer_Redo (retG r_buffer_Buffer_Redo (fun d1 bx1 => Rt (sizeE bx) bx1 d1 d bx')) ⟨env0 0 ds, bx⟩) : TSpM 18 ds bx d bx' := SpM_of mixed c_buffer_Buffer_Redo r_buffer_Buffer_Redo (fn := Try.f18) (by kernel_rfl) (by kernel_rfl) comp_buffer_Buffer_Redo (by kernel_rfl) hn h
/-- (glazier/buffer.Buffer).Insert -/
def c_buffer_Buffer_Insert : C := .seq (.reg false [
  ⟨(some 3), none, .box true (.t 0), none⟩,
  ⟨(some 6), none, .alloc [(.ls 3 []), (.ls 3 []), (.str [])], none⟩,
  ⟨(some 7), none, .mv false (.c (.int .i64 0)), none⟩] (some [1, 2, 3, 6])) (
.seq (.seq (.reg false [
  ⟨(some 8), none, .mv false (.t 2), none⟩,
  ⟨(some 9), none, .eqb false true (.t 8) (.c (.str [])), none⟩] (some [1, 2, 3, 6, 9])) (
.ite (.t 9) (
  .seq (.reg false [
    ⟨(some 10), none, .ld (some 3) (.t 3), none⟩,
    ⟨none, none, .st (some 3) (.t 6) (.t 10), none⟩,
    ⟨(some 7), none, .mv false (.c (.int .i64 13)), none⟩] (some [6, 7])) (
  .ret)) (
  .skip))) (
.seq (.seq (.reg false [
  ⟨(some 11), none, .mv false (.t 1), none⟩,
  ⟨(some 12), none, .bin .lss .i64 (.t 11) (.c (.int .i64 0)), none⟩,
  ⟨(some 13), none, .mv false (.t 12), none⟩,
  ⟨(some 14), some (13, false), .mv false (.t 1), none⟩,
  ⟨(some 15), some (13, false), .fld 2 (.t 3), none⟩,
  ⟨(some 16), some (13, false), .ld none (.t 15), none⟩,
  ⟨(some 17), some (13, false), .len true (.t 16), none⟩,
  ⟨(some 18), some (13, false), .bin .gtr .i64 (.t 14) (.t 17), none⟩,
  ⟨(some 19), none, .pick (.t 13) (.c (.bool true)) (.t 18), none⟩] (some [1, 2, 3, 6, 19])) (
.ite (.t 19) (
  .seq (.reg false [
    ⟨(some 20), none, .ld (some 3) (.t 3), none⟩,
    ⟨none, none, .st (some 3) (.t 6) (.t 20), none⟩,
    ⟨(some 7), none, .mv false (.c (.int .i64 1)), none⟩] (some [6, 7])) (
  .ret)) (
  .skip))) (
.seq (.seq (.reg false [
  ⟨(some 21), none, .mv false (.t 2), none⟩,
  ⟨(some 22), none, .call false 32 [(.t 21)], none⟩,
  ⟨(some 23), none, .not (.t 22), none⟩] (some [1, 2, 3, 6, 23])) (
.ite (.t 23) (
  .seq (.reg false [
    ⟨(some 24), none, .ld (some 3) (.t 3), none⟩,
    ⟨none, none, .st (some 3) (.t 6) (.t 24), none⟩,
    ⟨(some 7), none, .mv false (.c (.int .i64 2)), none⟩] (some [6, 7])) (
  .ret)) (
  .skip))) (
.seq (.seq (.reg false [
  ⟨(some 25), none, .fld 2 (.t 3), none⟩,
  ⟨(some 26), none, .ld none (.t 25), none⟩,
  ⟨(some 27), none, .len true (.t 26), none⟩,
  ⟨(some 28), none, .mv false (.t 2), none⟩,
  ⟨(some 29), none, .len true (.t 28), none⟩,
  ⟨(some 30), none, .bin .add .i64 (.t 27) (.t 29), none⟩,
  ⟨(some 31), none, .bin .gtr .i64 (.t 30) (.c (.int .i64 65536)), none⟩] (some [1, 2, 3, 6, 31])) (
.ite (.t 31) (
  .seq (.reg false [
    ⟨(some 32), none, .ld (some 3) (.t 3), none⟩,
    ⟨none, none, .st (some 3) (.t 6) (.t 32), none⟩,
    ⟨(some 7), none, .mv false (.c (.int .i64 4)), none⟩] (some [6, 7])) (
  .ret)) (
  .skip))) (
.seq (.reg false [
  ⟨(some 33), none, .ld (some 3) (.t 3), none⟩,
  ⟨(some 34), none, .mv false (.t 1), none⟩,
  ⟨(some 35), none, .mv false (.t 2), none⟩,
  ⟨(some 36), none, .bld [(.int .i64 0), (.str []), (.str [])] [(0, none, (.t 34)), (2, none, (.t 35))], none⟩,
  ⟨(some 37), none, .call false 37 [(.t 33), (.t 36)], none⟩,
  ⟨none, none, .st (some 3) (.t 6) (.t 37), none⟩,
  ⟨(some 7), none, .mv false (.c (.int .i64 0)), none⟩] (some [6, 7])) (
.ret))))))
set_option maxRecDepth 1000000 in
theorem comp_buffer_Buffer_Insert : (Try.f19.body.bind fun code => compC Try.prog Try.f19.ntmps code c_buffer_Buffer_Insert) = some c_buffer_Buffer_Insert.bare := by kernel_rfl
def r_buffer_Buffer_Insert : List R := [.cell 6 (some 3), .t 7]
theorem spo_buffer_Buffer_Insert {ds : List D} {d : D} (hn : Nat.ble ds.length 38 = true) (h : run TSpM gtab 0 c_buffer_Buffer_Insert (retK r_buffer_Buffer_Insert (· = d)) ⟨env0 0 ds, []⟩) : TSp 19 ds d := Sp_of mixed c_buffer_Buffer_Insert r_buffer_Buffer_Insert (fn := Try.f19) (by kernel_rfl) (by kernel_rfl) comp_buffer_Buffer_Insert (by kernel_rfl) hn h
theorem spm_buffer_Buffer_Insert {ds : List D} {d : D} {bx bx' : List Ent} (hn : Nat.ble ds.length 38 = true) (h : run TSpM gtab (sizeE bx) c_buffer_Buffer_Insert (retG r_buffer_Buffer_Insert (fun d1 bx1 => Rt (sizeE bx) bx1 d1 d bx')) ⟨env0 0 ds, bx⟩) : TSpM 19 ds bx d bx' := SpM_of mixed c_buffer_Buffer_Insert r_buffer_Buffer_Insert (fn := Try.f19) (by kernel_rfl) (by kernel_rfl) comp_buffer_Buffer_Insert (by kernel_rfl) hn h
/-- (glazier/buffer.Buffer).Delete -/
def c_buffer_Buffer_Delete : C := .seq (.reg false [
  ⟨(some 3), none, .box true (.t 0), none⟩,
  ⟨(some 6), none, .alloc [(.ls 3 []), (.ls 3 []), (.str [])], none⟩,
  ⟨(some 7), none, .mv false (.c (.int .i64 0)), none⟩] (some [1, 2, 3, 6])) (
.seq (.seq (.reg false [
  ⟨(some 8), none, .mv false (.t 1), none⟩,
  ⟨(some 9), none, .bin .lss .i64 (.t 8) (.c (.int .i64 0)), none⟩,
  ⟨(some 10), none, .mv false (.t 9), none⟩,
  ⟨(some 11), some (10, false), .mv false (.t 1), none⟩,
  ⟨(some 12), some (10, false), .mv false (.t 2), none⟩,
  ⟨(some 13), some (10, false), .bin .gtr .i64 (.t 11) (.t 12), none⟩,
  ⟨(some 14), none, .pick (.t 10) (.c (.bool true)) (.t 13), none⟩,
  ⟨(some 15), none, .mv false (.t 14), none⟩,
  ⟨(some 16), some (15, false), .mv false (.t 2), none⟩,
  ⟨(some 17), some (15, false), .fld 2 (.t 3), none⟩,
  ⟨(some 18), some (15, false), .ld none (.t 17), none⟩,
  ⟨(some 19), some (15, false), .len true (.t 18), none⟩,
  ⟨(some 20), some (15, false), .bin .gtr .i64 (.t 16) (.t 19), none⟩,
  ⟨(some 21), none, .pick (.t 15) (.c (.bool true)) (.t 20), none⟩] (some [1, 2, 3, 6, 21])) (
.ite (.t 21) (
  .seq (.reg false [
    ⟨(some 22), none, .ld (some 3) (.t 3), none⟩,
    ⟨none, none, .st (some 3) (.t 6) (.t 22), none⟩,
    ⟨(some 7), none, .mv false (.c (.int .i64 1)), none⟩] (some [6, 7])) (
  .ret)) (
  .skip))) (
.seq (.seq (.reg false [
  ⟨(some 23), none, .mv false (.t 1), none⟩,
  ⟨(some 24), none, .mv false (.t 2), none⟩,
  ⟨(some 25), none, .bin .eql .i64 (.t 23) (.t 24), none⟩] (some [1, 2, 3, 6, 25])) (
.ite (.t 25) (
  .seq (.reg false [
    ⟨(some 26), none, .ld (some 3) (.t 3), none⟩,
    ⟨none, none, .st (some 3) (.t 6) (.t 26), none⟩,
    ⟨(some 7), none, .mv false (.c (.int .i64 13)), none⟩] (some [6, 7])) (
  .ret)) (
  .skip))) (
.seq (.reg true [
  ⟨(some 27), none, .ld (some 3) (.t 3), none⟩,
  ⟨(some 28), none, .mv false (.t 1), none⟩,
  ⟨(some 29), none, .fld 2 (.t 3), none⟩,
  ⟨(some 30), none, .ld none (.t 29), none⟩,
  ⟨(some 31), none, .mv false (.t 1), none⟩,
  ⟨(some 32), none, .mv false (.t 2), none⟩,
  ⟨(some 33), none, .sst (.t 30) (some (.t 31)) (some (.t 32)), none⟩,
  ⟨(some 34), none, .bld [(.int .i64 0), (.str []), (.str [])] [(0, none, (.t 28)), (1, none, (.t 33))], none⟩,
  ⟨(some 35), none, .call false 37 [(.t 27), (.t 34)], none⟩,
  ⟨none, none, .st (some 3) (.t 6) (.t 35), none⟩,
  ⟨(some 7), none, .mv false (.c (.int .i64 0)), none⟩] (some [6, 7])) (
.ret))))
set_option maxRecDepth 1000000 in
theorem comp_buffer_Buffer_Delete : (Try.f20.body.bind fun code => compC Try.prog Try.f20.ntmps code c_buffer_Buffer_Delete) = some c_buffer_Buffer_Delete.bare := by kernel_rfl
def r_buffer_Buffer_Delete : List R := [.cell 6 (some 3), .t 7]
theorem spo_buffer_Buffer_Delete {ds : List D} {d : D} (hn : Nat.ble ds.length 36 = true) (h : run TSpM gtab 0 c_buffer_Buffer_Delete (retK r_buffer_Buffer_Delete (· = d)) ⟨env0 0 ds, []⟩) : TSp 20 ds d := Sp_of mixed c_buffer_Buffer_Delete r_buffer_Buffer_Delete (fn := Try.f20) (by kernel_rfl) (by kernel_rfl) comp_buffer_Buffer_Delete (by kernel_rfl) hn h
theorem spm_buffer_Buffer_Delete {ds : List D} {d : D} {bx bx' : List Ent} (hn : Nat.ble ds.length 36 = true) (h : run TSpM gtab (sizeE bx) c_buffer_Buffer_Delete (retG r_buffer_Buffer_Delete (fun d1 bx1 => Rt (sizeE bx) bx1 d1 d bx')) ⟨env0 0 ds, bx⟩) : TSpM 20 ds bx d bx' := SpM_of mixed c_buffer_Buffer_Delete r_buffer_Buffer_Delete (fn := Try.f20) (by kernel_rfl) (by kernel_rfl) comp_buffer_Buffer_Delete (by kernel_rfl) hn h
/-- (glazier/glazierlaw54.Act).Ref -/
def c_law54_Act_Ref : C := .seq (.reg false [
  ⟨(some 2), none, .box true (.t 0), none⟩,
  ⟨(some 3), none, .box true (.t 1), none⟩,
  ⟨(some 4), none, .alloc [(.ls 1 []), (.int .i64 0)], none⟩,
  ⟨(some 5), none, .mv false (.c (.int .i64 0)), none⟩,
  ⟨(some 6), none, .mv false (.c (.bool false)), none⟩] (some [2, 3, 4])) (
.seq (.seq (.reg false [
  ⟨(some 11), none, .fld 0 (.t 2), none⟩,
  ⟨(some 12), none, .ld none (.t 11), none⟩,
  ⟨(some 13), none, .bin .rem .u8 (.t 12) (.c (.int .u8 4)), none⟩] (some [2, 3, 4, 13])) (
.blk 0 (
  .seq (.reg false [
    ⟨(some 15), none, .bin .eql .u8 (.t 13) (.c (.int .u8 0)), none⟩,
    ⟨(some 14), none, .mv false (.t 15), none⟩] (some [2, 3, 4, 13, 14])) (
  .ite (.t 14) (
    .seq (.reg false [
      ⟨(some 17), none, .ld (some 2) (.t 3), none⟩,
      ⟨(some 18), none, .fld 1 (.t 2), none⟩,
      ⟨(some 19), none, .ld none (.t 18), none⟩,
      ⟨(some 20), none, .fld 3 (.t 2), none⟩,
      ⟨(some 21), none, .ld none (.t 20), none⟩,
      ⟨(some 22), none, .call false 38 [(.t 17), (.t 19), (.t 21)], none⟩,
      ⟨(some 16), none, .mv false (.t 22), none⟩,
      ⟨(some 23), none, .ext (.t 16) 0, none⟩,
      ⟨(some 24), none, .ext (.t 16) 1, none⟩,
      ⟨(some 7), none, .alloc [(.ls 1 []), (.int .i64 0)], none⟩,
      ⟨none, none, .st (some 2) (.t 7) (.t 23), none⟩,
      ⟨(some 8), none, .mv false (.t 24), none⟩] (some [4, 7, 8])) (
    .seq (.reg false [
      ⟨(some 25), none, .ld (some 2) (.t 7), none⟩,
      ⟨(some 26), none, .mv false (.t 8), none⟩,
      ⟨(some 27), none, .mv false (.t 8), none⟩,
      ⟨(some 28), none, .bin .eql .i64 (.t 27) (.c (.int .i64 0)), none⟩,
      ⟨none, none, .st (some 2) (.t 4) (.t 25), none⟩,
      ⟨(some 5), none, .mv false (.t 26), none⟩,
      ⟨(some 6), none, .mv false (.t 28), none⟩] (some [4, 5, 6])) (
    .ret))) (
    .seq (.reg false [
      ⟨(some 30), none, .bin .eql .u8 (.t 13) (.c (.int .u8 1)), none⟩,
      ⟨(some 29), none, .mv false (.t 30), none⟩] (some [2, 3, 4, 13, 29])) (
    .ite (.t 29) (
      .seq (.reg false [
        ⟨(some 32), none, .ld (some 2) (.t 3), none⟩,
        ⟨(some 33), none, .fld 1 (.t 2), none⟩,
        ⟨(some 34), none, .ld none (.t 33), none⟩,
        ⟨(some 35), none, .fld 2 (.t 2), none⟩,
        ⟨(some 36), none, .ld none (.t 35), none⟩,
        ⟨(some 37), none, .call false 39 [(.t 32), (.t 34), (.t 36)], none⟩,
        ⟨(some 31), none, .mv false (.t 37), none⟩,
        ⟨(some 38), none, .ext (.t 31) 0, none⟩,
        ⟨(some 39), none, .ext (.t 31) 1, none⟩,
        ⟨(some 9), none, .alloc [(.ls 1 []), (.int .i64 0)], none⟩,
        ⟨none, none, .st (some 2) (.t 9) (.t 38), none⟩,
        ⟨(some 10), none, .mv false (.t 39), none⟩] (some [4, 9, 10])) (
      .seq (.reg false [
        ⟨(some 40), none, .ld (some 2) (.t 9), none⟩,
        ⟨(some 41), none, .mv false (.t 10), none⟩,
        ⟨(some 42), none, .mv false (.t 10), none⟩,
        ⟨(some 43), none, .bin .eql .i64 (.t 42) (.c (.int .i64 0)), none⟩,
        ⟨none, none, .st (some 2) (.t 4) (.t 40), none⟩,
        ⟨(some 5), none, .mv false (.t 41), none⟩,
        ⟨(some 6), none, .mv false (.t 43), none⟩] (some [4, 5, 6])) (
      .ret))) (
      .seq (.reg false [
        ⟨(some 45), none, .bin .eql .u8 (.t 13) (.c (.int .u8 2)), none⟩,
        ⟨(some 44), none, .mv false (.t 45), none⟩] (some [3, 4, 44])) (
      .ite (.t 44) (
        .seq (.seq (.reg false [
          ⟨(some 46), none, .fld 1 (.t 3), none⟩,
          ⟨(some 47), none, .ld none (.t 46), none⟩,
          ⟨(some 48), none, .bin .eql .i64 (.t 47) (.c (.int .i64 0)), none⟩] (some [3, 4, 48])) (
        .ite (.t 48) (
          .seq (.reg false [
            ⟨(some 49), none, .ld (some 2) (.t 3), none⟩,
            ⟨none, none, .st (some 2) (.t 4) (.t 49), none⟩,
            ⟨(some 5), none, .mv false (.c (.int .i64 0)), none⟩,
            ⟨(some 6), none, .mv false (.c (.bool false)), none⟩] (some [4, 5, 6])) (
          .ret)) (
          .skip))) (
        .seq (.reg false [
          ⟨(some 50), none, .fld 0 (.t 3), none⟩,
          ⟨(some 51), none, .ld none (.t 50), none⟩,
          ⟨(some 52), none, .fld 1 (.t 3), none⟩,
          ⟨(some 53), none, .ld none (.t 52), none⟩,
          ⟨(some 54), none, .bin .sub .i64 (.t 53) (.c (.int .i64 1)), none⟩,
          ⟨(some 55), none, .bld [(.ls 1 []), (.int .i64 0)] [(0, none, (.t 51)), (1, none, (.t 54))], none⟩,
          ⟨none, none, .st (some 2) (.t 4) (.t 55), none⟩,
          ⟨(some 5), none, .mv false (.c (.int .i64 0)), none⟩,
          ⟨(some 6), none, .mv false (.c (.bool true)), none⟩] (some [4, 5, 6])) (
        .ret))) (
        .skip))))))))) (
.seq (.seq (.reg false [
  ⟨(some 56), none, .fld 1 (.t 3), none⟩,
  ⟨(some 57), none, .ld none (.t 56), none⟩,
  ⟨(some 58), none, .bin .add .i64 (.t 57) (.c (.int .i64 1)), none⟩,
  ⟨(some 59), none, .fld 0 (.t 3), none⟩,
  ⟨(some 60), none, .ld none (.t 59), none⟩,
  ⟨(some 61), none, .len false (.t 60), none⟩,
  ⟨(some 62), none, .bin .geq .i64 (.t 58) (.t 61), none⟩] (some [3, 4, 62])) (
.ite (.t 62) (
  .seq (.reg false [
    ⟨(some 63), none, .ld (some 2) (.t 3), none⟩,
    ⟨none, none, .st (some 2) (.t 4) (.t 63), none⟩,
    ⟨(some 5), none, .mv false (.c (.int .i64 0)), none⟩,
    ⟨(some 6), none, .mv false (.c (.bool false)), none⟩] (some [4, 5, 6])) (
  .ret)) (
  .skip))) (
.seq (.reg false [
  ⟨(some 64), none, .fld 0 (.t 3), none⟩,
  ⟨(some 65), none, .ld none (.t 64), none⟩,
  ⟨(some 66), none, .fld 1 (.t 3), none⟩,
  ⟨(some 67), none, .ld none (.t 66), none⟩,
  ⟨(some 68), none, .bin .add .i64 (.t 67) (.c (.int .i64 1)), none⟩,
  ⟨(some 69), none, .bld [(.ls 1 []), (.int .i64 0)] [(0, none, (.t 65)), (1, none, (.t 68))], none⟩,
  ⟨none, none, .st (some 2) (.t 4) (.t 69), none⟩,
  ⟨(some 5), none, .mv false (.c (.int .i64 0)), none⟩,
  ⟨(some 6), none, .mv false (.c (.bool true)), none⟩] (some [4, 5, 6])) (
.ret))))
set_option maxRecDepth 1000000 in
theorem comp_law54_Act_Ref : (Try.f21.body.bind fun code => compC Try.prog Try.f21.ntmps code c_law54_Act_Ref) = some c_law54_Act_Ref.bare := by kernel_rfl
def r_law54_Act_Ref : List R := [.cell 4 (some 2), .t 5, .t 6]
theorem spo_law54_Act_Ref {ds : List D} {d : D} (hn : Nat.ble ds.length 70 = true) (h : run TSpM gtab 0 c_law54_Act_Ref (retK r_law54_Act_Ref (· = d)) ⟨env0 0 ds, []⟩) : TSp 21 ds d := Sp_of mixed c_law54_Act_Ref r_law54_Act_Ref (fn := Try.f21) (by kernel_rfl) (by kernel_rfl) comp_law54_Act_Ref (by kernel_rfl) hn h
theorem spm_law54_Act_Ref {ds : List D} {d : D} {bx bx' : List Ent} (hn : Nat.ble ds.length 70 = true) (h : run TSpM gtab (sizeE bx) c_law54_Act_Ref (retG r_law54_Act_Ref (fun d1 bx1 => Rt (sizeE bx) bx1 d1 d bx')) ⟨env0 0 ds, bx⟩) : TSpM 21 ds bx d bx' := SpM_of mixed c_law54_Act_Ref r_law54_Act_Ref (fn := Try.f21) (by kernel_rfl) (by kernel_rfl) comp_law54_Act_Ref (by kernel_rfl) hn h
/-- glazier/glazierref54.Text -/
def c_ref54_Text : C := .seq (.reg false [
  ⟨(some 1), none, .box true (.t 0), none⟩,
  ⟨(some 2), none, .mv false (.c (.str [])), none⟩] (some [1])) (
.seq (.seq (.reg false [
  ⟨(some 3), none, .fld 0 (.t 1), none⟩,
  ⟨(some 4), none, .ld none (.t 3), none⟩,
  ⟨(some 5), none, .len false (.t 4), none⟩,
  ⟨(some 6), none, .bin .eql .i64 (.t 5) (.c (.int .i64 0)), none⟩] (some [1, 6])) (
.ite (.t 6) (
  .seq (.reg false [
    ⟨(some 2), none, .mv false (.c (.str [])), none⟩] (some [2])) (
  .ret)) (
  .skip))) (
.seq (.reg false [
  ⟨(some 7), none, .fld 0 (.t 1), none⟩,
  ⟨(some 8), none, .ld none (.t 7), none⟩,
  ⟨(some 9), none, .fld 1 (.t 1), none⟩,
  ⟨(some 10), none, .ld none (.t 9), none⟩,
  ⟨(some 11), none, .ixs 1 (.t 8) (.t 10), none⟩,
  ⟨(some 12), none, .ld none (.t 11), none⟩,
  ⟨(some 2), none, .mv false (.t 12), none⟩] (some [2])) (
.ret)))
set_option maxRecDepth 1000000 in
theorem comp_ref54_Text : (Try.f22.body.bind fun code => compC Try.prog Try.f22.ntmps code c_ref54_Text) = some c_ref54_Text.bare := by kernel_rfl
def r_ref54_Text : List R := [.t 2]
theorem spo_ref54_Text {ds : List D} {d : D} (hn : Nat.ble ds.length 13 = true) (h : run TSpM gtab 0 c_ref54_Text (retK r_ref54_Text (· = d)) ⟨env0 0 ds, []⟩) : TSp 22 ds d := Sp_of mixed c_ref54_Text r_ref54_Text (fn := Try.f22) (by kernel_rfl) (by kernel_rfl) comp_ref54_Text (by kernel_rfl) hn h
theorem spm_ref54_Text {ds : List D} {d : D} {bx bx' : List Ent} (hn : Nat.ble ds.length 13 = true) (h : run TSpM gtab (sizeE bx) c_ref54_Text (retG r_ref54_Text (fun d1 bx1 => Rt (sizeE bx) bx1 d1 d bx')) ⟨env0 0 ds, bx⟩) : TSpM 22 ds bx d bx' := SpM_of mixed c_ref54_Text r_ref54_Text (fn := Try.f22) (by kernel_rfl) (by kernel_rfl) comp_ref54_Text (by kernel_rfl) hn h
/-- glazier/glazierref54.Lines -/
def c_ref54_Lines : C := .seq (.reg false [
  ⟨(some 2), none, .nilS 9 1, none⟩] (some [0])) (
.seq (.reg false [
  ⟨(some 5), none, .bsl (some false) 9 1 none [(.c (.str []))], none⟩,
  ⟨(some 3), none, .mv false (.t 5), none⟩] (some [0, 3])) (
.seq (.seq (.reg false [
  ⟨(some 4), none, .mv false (.c (.int .i64 0)), none⟩] (some [0, 3, 4])) (
.blk 0 (
  .loop (
    .seq (.seq (.reg false [
      ⟨(some 6), none, .mv false (.t 4), none⟩,
      ⟨(some 7), none, .mv false (.t 0), none⟩,
      ⟨(some 8), none, .len true (.t 7), none⟩,
      ⟨(some 9), none, .bin .lss .i64 (.t 6) (.t 8), none⟩] (some [0, 3, 4, 9])) (
    .ite (.t 9) (
      .skip) (
      .exit 0))) (
    .seq (.blk 1 (
      .seq (.reg false [
        ⟨(some 12), none, .mv false (.t 0), none⟩,
        ⟨(some 13), none, .mv false (.t 4), none⟩,
        ⟨(some 14), none, .sidx (.t 12) (.t 13), none⟩,
        ⟨(some 15), none, .bin .eql .u8 (.t 14) (.c (.int .u8 10)), none⟩] (some [0, 3, 4, 15])) (
      .ite (.t 15) (
        .reg false [
          ⟨(some 16), none, .mv false (.t 3), none⟩,
          ⟨(some 17), none, .bsl none 9 1 none [(.c (.str []))], none⟩,
          ⟨(some 18), none, .app 9 1 16 (.t 16) (.t 17), none⟩,
          ⟨(some 3), none, .mv false (.t 18), none⟩] (some [0, 3, 4])) (
        .reg true [
          ⟨(some 19), none, .mv false (.t 3), none⟩,
          ⟨(some 20), none, .mv false (.t 3), none⟩,
          ⟨(some 21), none, .len false (.t 20), none⟩,
          ⟨(some 22), none, .bin .sub .i64 (.t 21) (.c (.int .i64 1)), none⟩,
          ⟨(some 23), none, .mv false (.t 3), none⟩,
          ⟨(some 24), none, .mv false (.t 3), none⟩,
          ⟨(some 25), none, .len false (.t 24), none⟩,
          ⟨(some 26), none, .bin .sub .i64 (.t 25) (.c (.int .i64 1)), none⟩,
          ⟨(some 27), none, .ixs 1 (.t 23) (.t 26), none⟩,
          ⟨(some 28), none, .ld none (.t 27), none⟩,
          ⟨(some 29), none, .mv false (.t 0), none⟩,
          ⟨(some 30), none, .mv false (.t 4), none⟩,
          ⟨(some 31), none, .mv false (.t 4), none⟩,
          ⟨(some 32), none, .bin .add .i64 (.t 31) (.c (.int .i64 1)), none⟩,
          ⟨(some 33), none, .sst (.t 29) (some (.t 30)) (some (.t 32)), none⟩,
          ⟨(some 34), none, .cat (.t 28) (.t 33), none⟩,
          ⟨(some 35), none, .ixs 1 (.t 19) (.t 22), none⟩,
          ⟨none, none, .st none (.t 35) (.t 34), none⟩] (some [0, 3, 4]))))) (
    .reg false [
      ⟨(some 10), none, .mv false (.t 4), none⟩,
      ⟨(some 11), none, .bin .add .i64 (.t 10) (.c (.int .i64 1)), none⟩,
      ⟨(some 4), none, .mv false (.t 11), none⟩] (some [0, 3, 4]))))))) (
.seq (.reg false [
  ⟨(some 36), none, .mv false (.t 3), none⟩,
  ⟨(some 2), none, .mv false (.t 36), none⟩] (some [2])) (
.ret))))
set_option maxRecDepth 1000000 in
theorem comp_ref54_Lines : (Try.f23.body.bind fun code => compC Try.prog Try.f23.ntmps code c_ref54_Lines) = some c_ref54_Lines.bare := by kernel_rfl
def r_ref54_Lines : List R := [.t 2]
theorem spo_ref54_Lines {ds : List D} {d : D} (hn : Nat.ble ds.length 37 = true) (h : run TSpM gtab 0 c_ref54_Lines (retK r_ref54_Lines (· = d)) ⟨env0 0 ds, []⟩) : TSp 23 ds d := Sp_of mixed c_ref54_Lines r_ref54_Lines (fn := Try.f23) (by kernel_rfl) (by kernel_rfl) comp_ref54_Lines (by kernel_rfl) hn h
theorem spm_ref54_Lines {ds : List D} {d : D} {bx bx' : List Ent} (hn : Nat.ble ds.length 37 = true) (h : run TSpM gtab (sizeE bx) c_ref54_Lines (retG r_ref54_Lines (fun d1 bx1 => Rt (sizeE bx) bx1 d1 d bx')) ⟨env0 0 ds, bx⟩) : TSpM 23 ds bx d bx' := SpM_of mixed c_ref54_Lines r_ref54_Lines (fn := Try.f23) (by kernel_rfl) (by kernel_rfl) comp_ref54_Lines (by kernel_rfl) hn h
/-- (glazier/buffer.Buffer).Spot -/
def c_buffer_Buffer_Spot : C := .seq (.reg false [
  ⟨(some 2), none, .box true (.t 0), none⟩,
  ⟨(some 4), none, .mv false (.c (.int .i64 0)), none⟩,
  ⟨(some 5), none, .mv false (.c (.int .i64 0)), none⟩] (some [1, 2])) (
.seq (.reg false [
  ⟨(some 7), none, .fld 2 (.t 2), none⟩,
  ⟨(some 8), none, .ld none (.t 7), none⟩,
  ⟨(some 9), none, .mv false (.t 1), none⟩,
  ⟨(some 10), none, .mx (.t 9) (.c (.int .i64 0)), none⟩,
  ⟨(some 11), none, .fld 2 (.t 2), none⟩,
  ⟨(some 12), none, .ld none (.t 11), none⟩,
  ⟨(some 13), none, .len true (.t 12), none⟩,
  ⟨(some 14), none, .mn (.t 10) (.t 13), none⟩,
  ⟨(some 15), none, .sst (.t 8) none (some (.t 14)), none⟩,
  ⟨(some 6), none, .mv false (.t 15), none⟩] (some [6])) (
.seq (.reg false [
  ⟨(some 16), none, .mv false (.t 6), none⟩,
  ⟨(some 17), none, .call false 40 [(.t 16), (.c (.str [10]))], none⟩,
  ⟨(some 18), none, .mv false (.t 6), none⟩,
  ⟨(some 19), none, .len true (.t 18), none⟩,
  ⟨(some 20), none, .mv false (.t 6), none⟩,
  ⟨(some 21), none, .call false 41 [(.t 20), (.c (.int .u8 10))], none⟩,
  ⟨(some 22), none, .bin .sub .i64 (.t 19) (.t 21), none⟩,
  ⟨(some 23), none, .bin .sub .i64 (.t 22) (.c (.int .i64 1)), none⟩,
  ⟨(some 4), none, .mv false (.t 17), none⟩,
  ⟨(some 5), none, .mv false (.t 23), none⟩] (some [4, 5])) (
.ret)))
set_option maxRecDepth 1000000 in
theorem comp_buffer_Buffer_Spot : (Try.f24.body.bind fun code => compC Try.prog Try.f24.ntmps code c_buffer_Buffer_Spot) = some c_buffer_Buffer_Spot.bare := by kernel_rfl
def r_buffer_Buffer_Spot : List R := [.t 4, .t 5]
theorem spo_buffer_Buffer_Spot {ds : List D} {d : D} (hn : Nat.ble ds.length 24 = true) (h : run TSpM gtab 0 c_buffer_Buffer_Spot (retK r_buffer_Buffer_Spot (· = d)) ⟨env0 0 ds, []⟩) : TSp 24 ds d := Sp_of mixed c_buffer_Buffer_Spot r_buffer_Buffer_Spot (fn := Try.f24) (by kernel_rfl) (by kernel_rfl) comp_buffer_Buffer_Spot (by kernel_rfl) hn h
theorem spm_buffer_Buffer_Spot {ds : List D} {d : D} {bx bx' : List Ent} (hn : Nat.ble ds.length 24 = true) (h : run TSpM gtab (sizeE bx) c_buffer_Buffer_Spot (retG r_buffer_Buffer_Spot (fun d1 bx1 => Rt (sizeE bx) bx1 d1 d bx')) ⟨env0 0 ds, bx⟩) : TSpM 24 ds bx d bx' := SpM_of mixed c_buffer_Buffer_Spot r_buffer_Buffer_Spot (fn := Try.f24) (by kernel_rfl) (by kernel_rfl) comp_buffer_Buffer_Spot (by kernel_rfl) hn h
/-- glazier/glazierref54.Spot -/
def c_ref54_Spot : C := .seq (.reg false [
  ⟨(some 4), none, .mv false (.c (.int .i64 0)), none⟩,
  ⟨(some 5), none, .mv false (.c (.int .i64 0)), none⟩] (some [0, 1])) (
.seq (.reg false [
  ⟨(some 7), none, .mv false (.t 1), none⟩,
  ⟨(some 8), none, .mv false (.t 0), none⟩,
  ⟨(some 9), none, .len true (.t 8), none⟩,
  ⟨(some 10), none, .mn (.t 7) (.t 9), none⟩,
  ⟨(some 11), none, .mx (.c (.int .i64 0)) (.t 10), none⟩,
  ⟨(some 1), none, .mv false (.t 11), none⟩] (some [0, 1])) (
.seq (.reg false [
  ⟨(some 12), none, .mv false (.t 0), none⟩,
  ⟨(some 13), none, .mv false (.t 1), none⟩,
  ⟨(some 14), none, .sst (.t 12) none (some (.t 13)), none⟩,
  ⟨(some 15), none, .call false 23 [(.t 14)], none⟩,
  ⟨(some 6), none, .mv false (.t 15), none⟩] (some [6])) (
.seq (.reg true [
  ⟨(some 16), none, .mv false (.t 6), none⟩,
  ⟨(some 17), none, .len false (.t 16), none⟩,
  ⟨(some 18), none, .bin .sub .i64 (.t 17) (.c (.int .i64 1)), none⟩,
  ⟨(some 19), none, .mv false (.t 6), none⟩,
  ⟨(some 20), none, .mv false (.t 6), none⟩,
  ⟨(some 21), none, .len false (.t 20), none⟩,
  ⟨(some 22), none, .bin .sub .i64 (.t 21) (.c (.int .i64 1)), none⟩,
  ⟨(some 23), none, .ixs 1 (.t 19) (.t 22), none⟩,
  ⟨(some 24), none, .ld none (.t 23), none⟩,
  ⟨(some 25), none, .len true (.t 24), none⟩,
  ⟨(some 4), none, .mv false (.t 18), none⟩,
  ⟨(some 5), none, .mv false (.t 25), none⟩] (some [4, 5])) (
.ret))))
set_option maxRecDepth 1000000 in
theorem comp_ref54_Spot : (Try.f25.body.bind fun code => compC Try.prog Try.f25.ntmps code c_ref54_Spot) = some c_ref54_Spot.bare := by kernel_rfl
def r_ref54_Spot : List R := [.t 4, .t 5]
theorem spo_ref54_Spot {ds : List D} {d : D} (hn : Nat.ble ds.length 26 = true) (h : run TSpM gtab 0 c_ref54_Spot (retK r_ref54_Spot (· = d)) ⟨env0 0 ds, []⟩) : TSp 25 ds d := Sp_of mixed c_ref54_Spot r_ref54_Spot (fn := Try.f25) (by kernel_rfl) (by kernel_rfl) comp_ref54_Spot (by kernel_rfl) hn h
theorem spm_ref54_Spot {ds : List D} {d : D} {bx bx' : List Ent} (hn : Nat.ble ds.length 26 = true) (h : run TSpM gtab (sizeE bx) c_ref54_Spot (retG r_ref54_Spot (fun d1 bx1 => Rt (sizeE bx) bx1 d1 d bx')) ⟨env0 0 ds, bx⟩) : TSpM 25 ds bx d bx' := SpM_of mixed c_ref54_Spot r_ref54_Spot (fn := Try.f25) (by kernel_rfl) (by kernel_rfl) comp_ref54_Spot (by kernel_rfl) hn h
/-- (glazier/buffer.Buffer).Lines -/
def c_buffer_Buffer_Lines : C := .seq (.reg false [
  ⟨(some 1), none, .box true (.t 0), none⟩,
  ⟨(some 2), none, .mv false (.c (.int .i64 0)), none⟩] (some [1])) (
.seq (.reg false [
  ⟨(some 3), none, .fld 2 (.t 1), none⟩,
  ⟨(some 4), none, .ld none (.t 3), none⟩,
  ⟨(some 5), none, .call false 40 [(.t 4), (.c (.str [10]))], none⟩,
  ⟨(some 6), none, .bin .add .i64 (.t 5) (.c (.int .i64 1)), none⟩,
  ⟨(some 2), none, .mv false (.t 6), none⟩] (some [2])) (
.ret))
set_option maxRecDepth 1000000 in
theorem comp_buffer_Buffer_Lines : (Try.f26.body.bind fun code => compC Try.prog Try.f26.ntmps code c_buffer_Buffer_Lines) = some c_buffer_Buffer_Lines.bare := by kernel_rfl
def r_buffer_Buffer_Lines : List R := [.t 2]
theorem spo_buffer_Buffer_Lines {ds : List D} {d : D} (hn : Nat.ble ds.length 7 = true) (h : run TSpM gtab 0 c_buffer_Buffer_Lines (retK r_buffer_Buffer_Lines (· = d)) ⟨env0 0 ds, []⟩) : TSp 26 ds d := Sp_of mixed c_buffer_Buffer_Lines r_buffer_Buffer_Lines (fn := Try.f26) (by kernel_rfl) (by kernel_rfl) comp_buffer_Buffer_Lines (by kernel_rfl) hn h
theorem spm_buffer_Buffer_Lines {ds : List D} {d : D} {bx bx' : List Ent} (hn : Nat.ble ds.length 7 = true) (h : run TSpM gtab (sizeE bx) c_buffer_Buffer_Lines (retG r_buffer_Buffer_Lines (fun d1 bx1 => Rt (sizeE bx) bx1 d1 d bx')) ⟨env0 0 ds, bx⟩) : TSpM 26 ds bx d bx' := SpM_of mixed c_buffer_Buffer_Lines r_buffer_Buffer_Lines (fn := Try.f26) (by kernel_rfl) (by kernel_rfl) comp_buffer_Buffer_Lines (by kernel_rfl) hn h
/-- (glazier/buffer.Buffer).Line -/
def c_buffer_Buffer_Line : C := .seq (.reg false [
  ⟨(some 2), none, .box true (.t 0), none⟩,
  ⟨(some 4), none, .mv false (.c (.str [])), none⟩] (some [1, 2])) (
.seq (.seq (.reg false [
  ⟨(some 7), none, .mv false (.t 1), none⟩,
  ⟨(some 8), none, .bin .lss .i64 (.t 7) (.c (.int .i64 0)), none⟩,
  ⟨(some 9), none, .mv false (.t 8), none⟩,
  ⟨(some 10), some (9, false), .mv false (.t 1), none⟩,
  ⟨(some 11), some (9, false), .ld (some 3) (.t 2), none⟩,
  ⟨(some 12), some (9, false), .call false 26 [(.t 11)], none⟩,
  ⟨(some 13), some (9, false), .bin .geq .i64 (.t 10) (.t 12), none⟩,
  ⟨(some 14), none, .pick (.t 9) (.c (.bool true)) (.t 13), none⟩] (some [1, 2, 14])) (
.ite (.t 14) (
  .seq (.reg false [
    ⟨(some 4), none, .mv false (.c (.str [])), none⟩] (some [4])) (
  .ret)) (
  .skip))) (
.seq (.reg false [
  ⟨(some 16), none, .ld (some 3) (.t 2), none⟩,
  ⟨(some 17), none, .mv false (.t 1), none⟩,
  ⟨(some 18), none, .call false 42 [(.t 16), (.t 17)], none⟩,
  ⟨(some 15), none, .mv false (.t 18), none⟩,
  ⟨(some 19), none, .ext (.t 15) 0, none⟩,
  ⟨(some 20), none, .ext (.t 15) 1, none⟩,
  ⟨(some 5), none, .mv false (.t 19), none⟩,
  ⟨(some 6), none, .mv false (.t 20), none⟩] (some [2, 5, 6])) (
.seq (.reg false [
  ⟨(some 21), none, .fld 2 (.t 2), none⟩,
  ⟨(some 22), none, .ld none (.t 21), none⟩,
  ⟨(some 23), none, .mv false (.t 5), none⟩,
  ⟨(some 24), none, .mv false (.t 6), none⟩,
  ⟨(some 25), none, .sst (.t 22) (some (.t 23)) (some (.t 24)), none⟩,
  ⟨(some 4), none, .mv false (.t 25), none⟩] (some [4])) (
.ret))))
set_option maxRecDepth 1000000 in
theorem comp_buffer_Buffer_Line : (Try.f27.body.bind fun code => compC Try.prog Try.f27.ntmps code c_buffer_Buffer_Line) = some c_buffer_Buffer_Line.bare := by kernel_rfl
def r_buffer_Buffer_Line : List R := [.t 4]
theorem spo_buffer_Buffer_Line {ds : List D} {d : D} (hn : Nat.ble ds.length 26 = true) (h : run TSpM gtab 0 c_buffer_Buffer_Line (retK r_buffer_Buffer_Line (· = d)) ⟨env0 0 ds, []⟩) : TSp 27 ds d := Sp_of mixed c_buffer_Buffer_Line r_buffer_Buffer_Line (fn := Try.f27) (by kernel_rfl) (by kernel_rfl) comp_buffer_Buffer_Line (by kernel_rfl) hn h
theorem spm_buffer_Buffer_Line {ds : List D} {d : D} {bx bx' : List Ent} (hn : Nat.ble ds.length 26 = true) (h : run TSpM gtab (sizeE bx) c_buffer_Buffer_Line (retG r_buffer_Buffer_Line (fun d1 bx1 => Rt (sizeE bx) bx1 d1 d bx')) ⟨env0 0 ds, bx⟩) : TSpM 27 ds bx d bx' := SpM_of mixed c_buffer_Buffer_Line r_buffer_Buffer_Line (fn := Try.f27) (by kernel_rfl) (by kernel_rfl) comp_buffer_Buffer_Line (by kernel_rfl) hn h
/-- (glazier/buffer.Buffer).Place -/
def c_buffer_Buffer_Place : C := .seq (.reg false [
  ⟨(some 3), none, .box true (.t 0), none⟩,
  ⟨(some 6), none, .mv false (.c (.int .i64 0)), none⟩] (some [1, 2, 3])) (
.seq (.reg true [
  ⟨(some 10), none, .ld (some 3) (.t 3), none⟩,
  ⟨(some 11), none, .mv false (.t 1), none⟩,
  ⟨(some 12), none, .mx (.t 11) (.c (.int .i64 0)), none⟩,
  ⟨(some 13), none, .ld (some 3) (.t 3), none⟩,
  ⟨(some 14), none, .call false 26 [(.t 13)], none⟩,
  ⟨(some 15), none, .bin .sub .i64 (.t 14) (.c (.int .i64 1)), none⟩,
  ⟨(some 16), none, .mn (.t 12) (.t 15), none⟩,
  ⟨(some 17), none, .call false 42 [(.t 10), (.t 16)], none⟩,
  ⟨(some 9), none, .mv false (.t 17), none⟩,
  ⟨(some 18), none, .ext (.t 9) 0, none⟩,
  ⟨(some 19), none, .ext (.t 9) 1, none⟩,
  ⟨(some 7), none, .mv false (.t 18), none⟩,
  ⟨(some 8), none, .mv false (.t 19), none⟩] (some [2, 7, 8])) (
.seq (.reg false [
  ⟨(some 20), none, .mv false (.t 7), none⟩,
  ⟨(some 21), none, .mv false (.t 2), none⟩,
  ⟨(some 22), none, .mx (.t 21) (.c (.int .i64 0)), none⟩,
  ⟨(some 23), none, .mv false (.t 8), none⟩,
  ⟨(some 24), none, .mv false (.t 7), none⟩,
  ⟨(some 25), none, .bin .sub .i64 (.t 23) (.t 24), none⟩,
  ⟨(some 26), none, .mn (.t 22) (.t 25), none⟩,
  ⟨(some 27), none, .bin .add .i64 (.t 20) (.t 26), none⟩,
  ⟨(some 6), none, .mv false (.t 27), none⟩] (some [6])) (
.ret)))
set_option maxRecDepth 1000000 in
theorem comp_buffer_Buffer_Place : (Try.f28.body.bind fun code => compC Try.prog Try.f28.ntmps code c_buffer_Buffer_Place) = some c_buffer_Buffer_Place.bare := by kernel_rfl
def r_buffer_Buffer_Place : List R := [.t 6]
theorem spo_buffer_Buffer_Place {ds : List D} {d : D} (hn : Nat.ble ds.length 28 = true) (h : run TSpM gtab 0 c_buffer_Buffer_Place (retK r_buffer_Buffer_Place (· = d)) ⟨env0 0 ds, []⟩) : TSp 28 ds d := Sp_of mixed c_buffer_Buffer_Place r_buffer_Buffer_Place (fn := Try.f28) (by kernel_rfl) (by kernel_rfl) comp_buffer_Buffer_Place (by kernel_rfl) hn h
theorem spm_buffer_Buffer_Place {ds : List D} {d : D} {bx bx' : List Ent} (hn : Nat.ble ds.length 28 = true) (h : run TSpM gtab (sizeE bx) c_buffer_Buffer_Place (retG r_buffer_Buffer_Place (fun d1 bx1 => Rt (sizeE bx) bx1 d1 d bx')) ⟨env0 0 ds, bx⟩) : TSpM 28 ds bx d bx' := SpM_of mixed c_buffer_Buffer_Place r_buffer_Buffer_Place (fn := Try.f28) (by kernel_rfl) (by kernel_rfl) comp_buffer_Buffer_Place (by kernel_rfl) hn h
/-- glazier/glazierref54.Place -/
def c_ref54_Place : C := .seq (.reg false [
  ⟨(some 6), none, .mv false (.c (.int .i64 0)), none⟩] (some [0, 1, 2])) (
.seq (.reg false [
  ⟨(some 10), none, .mv false (.t 0), none⟩,
  ⟨(some 11), none, .call false 23 [(.t 10)], none⟩,
  ⟨(some 7), none, .mv false (.t 11), none⟩] (some [1, 2, 7])) (
.seq (.reg false [
  ⟨(some 12), none, .mv false (.t 1), none⟩,
  ⟨(some 13), none, .mv false (.t 7), none⟩,
  ⟨(some 14), none, .len false (.t 13), none⟩,
  ⟨(some 15), none, .bin .sub .i64 (.t 14) (.c (.int .i64 1)), none⟩,
  ⟨(some 16), none, .mn (.t 12) (.t 15), none⟩,
  ⟨(some 17), none, .mx (.c (.int .i64 0)) (.t 16), none⟩,
  ⟨(some 1), none, .mv false (.t 17), none⟩] (some [1, 2, 7])) (
.seq (.reg false [
  ⟨(some 18), none, .mv false (.t 2), none⟩,
  ⟨(some 19), none, .mv false (.t 7), none⟩,
  ⟨(some 20), none, .mv false (.t 1), none⟩,
  ⟨(some 21), none, .ixs 1 (.t 19) (.t 20), none⟩,
  ⟨(some 22), none, .ld none (.t 21), none⟩,
  ⟨(some 23), none, .len true (.t 22), none⟩,
  ⟨(some 24), none, .mn (.t 18) (.t 23), none⟩,
  ⟨(some 25), none, .mx (.c (.int .i64 0)) (.t 24), none⟩,
  ⟨(some 2), none, .mv false (.t 25), none⟩] (some [1, 2, 7])) (
.seq (.reg false [
  ⟨(some 26), none, .mv false (.t 2), none⟩,
  ⟨(some 8), none, .mv false (.t 26), none⟩] (some [1, 7, 8])) (
.seq (.seq (.reg false [
  ⟨(some 9), none, .mv false (.c (.int .i64 0)), none⟩] (some [1, 7, 8, 9])) (
.blk 0 (
  .loop (
    .seq (.seq (.reg false [
      ⟨(some 27), none, .mv false (.t 9), none⟩,
      ⟨(some 28), none, .mv false (.t 1), none⟩,
      ⟨(some 29), none, .bin .lss .i64 (.t 27) (.t 28), none⟩] (some [1, 7, 8, 9, 29])) (
    .ite (.t 29) (
      .skip) (
      .exit 0))) (
    .seq (.blk 1 (
      .reg false [
        ⟨(some 32), none, .mv false (.t 8), none⟩,
        ⟨(some 33), none, .mv false (.t 7), none⟩,
        ⟨(some 34), none, .mv false (.t 9), none⟩,
        ⟨(some 35), none, .ixs 1 (.t 33) (.t 34), none⟩,
        ⟨(some 36), none, .ld none (.t 35), none⟩,
        ⟨(some 37), none, .len true (.t 36), none⟩,
        ⟨(some 38), none, .bin .add .i64 (.t 32) (.t 37), none⟩,
        ⟨(some 39), none, .bin .add .i64 (.t 38) (.c (.int .i64 1)), none⟩,
        ⟨(some 8), none, .mv false (.t 39), none⟩] (some [1, 7, 8, 9]))) (
    .reg false [
      ⟨(some 30), none, .mv false (.t 9), none⟩,
      ⟨(some 31), none, .bin .add .i64 (.t 30) (.c (.int .i64 1)), none⟩,
      ⟨(some 9), none, .mv false (.t 31), none⟩] (some [1, 7, 8, 9]))))))) (
.seq (.reg false [
  ⟨(some 40), none, .mv false (.t 8), none⟩,
  ⟨(some 6), none, .mv false (.t 40), none⟩] (some [6])) (
.ret)))))))
set_option maxRecDepth 1000000 in
theorem comp_ref54_Place : (Try.f29.body.bind fun code => compC Try.prog Try.f29.ntmps code c_ref54_Place) = some c_ref54_Place.bare := by kernel_rfl
def r_ref54_Place : List R := [.t 6]
theorem spo_ref54_Place {ds : List D} {d : D} (hn : Nat.ble ds.length 41 = true) (h : run TSpM gtab 0 c_ref54_Place (retK r_ref54_Place (· = d)) ⟨env0 0 ds, []⟩) : TSp 29 ds d := Sp_of mixed c_ref54_Place r_ref54_Place (fn := Try.f29) (by kernel_rfl) (by kernel_rfl) comp_ref54_Place (by kernel_rfl) hn h
theorem spm_ref54_Place {ds : List D} {d : D} {bx bx' : List Ent} (hn : Nat.ble ds.length 41 = true) (h : run TSpM gtab (sizeE bx) c_ref54_Place (retG r_ref54_Place (fun d1 bx1 => Rt (sizeE bx) bx1 d1 d bx')) ⟨env0 0 ds, bx⟩) : TSpM 29 ds bx d bx' := SpM_of mixed c_ref54_Place r_ref54_Place (fn := Try.f29) (by kernel_rfl) (by kernel_rfl) comp_ref54_Place (by kernel_rfl) hn h
/-- glazier/buffer.right -/
def c_buffer_right : C := .seq (.reg false [
  ⟨(some 2), none, .mv false (.c (.bool false)), none⟩] (some [0])) (
.seq (.seq (.reg false [
  ⟨(some 4), none, .mv false (.t 0), none⟩,
  ⟨(some 5), none, .len true (.t 4), none⟩,
  ⟨(some 6), none, .mv false (.c (.int .i64 0)), none⟩] (some [0, 5, 6])) (
.blk 0 (
  .loop (
    .seq (.reg false [
      ⟨(some 7), none, .bin .lss .i64 (.t 6) (.t 5), none⟩] (some [0, 5, 6, 7])) (
    .seq (.ite (.t 7) (
      .skip) (
      .exit 0)) (
    .seq (.blk 1 (
      .seq (.reg false [
        ⟨(some 8), none, .mv false (.t 6), none⟩,
        ⟨(some 3), none, .mv false (.t 8), none⟩] (some [0, 3, 5, 6])) (
      .seq (.reg false [
        ⟨(some 9), none, .mv false (.t 0), none⟩,
        ⟨(some 10), none, .mv false (.t 3), none⟩,
        ⟨(some 11), none, .sidx (.t 9) (.t 10), none⟩,
        ⟨(some 12), none, .bin .neq .u8 (.t 11) (.c (.int .u8 10)), none⟩,
        ⟨(some 13), none, .mv false (.t 12), none⟩,
        ⟨(some 14), some (13, true), .mv false (.t 0), none⟩,
        ⟨(some 15), some (13, true), .mv false (.t 3), none⟩,
        ⟨(some 16), some (13, true), .sidx (.t 14) (.t 15), none⟩,
        ⟨(some 17), some (13, true), .bin .lss .u8 (.t 16) (.c (.int .u8 32)), none⟩,
        ⟨(some 18), some (13, true), .mv false (.t 17), none⟩,
        ⟨(some 19), some (18, false), .mv false (.t 0), none⟩,
        ⟨(some 20), some (18, false), .mv false (.t 3), none⟩,
        ⟨(some 21), some (18, false), .sidx (.t 19) (.t 20), none⟩,
        ⟨(some 22), some (18, false), .bin .gtr .u8 (.t 21) (.c (.int .u8 126)), none⟩,
        ⟨(some 23), some (13, true), .pick (.t 18) (.c (.bool true)) (.t 22), none⟩,
        ⟨(some 24), none, .pick (.t 13) (.t 23) (.c (.bool false)), none⟩] (some [0, 5, 6, 24])) (
      .ite (.t 24) (
        .seq (.reg false [
          ⟨(some 2), none, .mv false (.c (.bool false)), none⟩] (some [2])) (
        .ret)) (
        .skip))))) (
    .reg false [
      ⟨(some 25), none, .bin .add .i64 (.t 6) (.c (.int .i64 1)), none⟩,
      ⟨(some 6), none, .mv false (.t 25), none⟩] (some [0, 5, 6])))))))) (
.seq (.reg false [
  ⟨(some 2), none, .mv false (.c (.bool true)), none⟩] (some [2])) (
.ret)))
set_option maxRecDepth 1000000 in
theorem comp_buffer_right : (Try.f32.body.bind fun code => compC Try.prog Try.f32.ntmps code c_buffer_right) = some c_buffer_right.bare := by kernel_rfl
def r_buffer_right : List R := [.t 2]
theorem spo_buffer_right {ds : List D} {d : D} (hn : Nat.ble ds.length 26 = true) (h : run TSpM gtab 0 c_buffer_right (retK r_buffer_right (· = d)) ⟨env0 0 ds, []⟩) : TSp 32 ds d := Sp_of mixed c_buffer_right r_buffer_right (fn := Try.f32) (by kernel_rfl) (by kernel_rfl) comp_buffer_right (by kernel_rfl) hn h
theorem spm_buffer_right {ds : List D} {d : D} {bx bx' : List Ent} (hn : Nat.ble ds.length 26 = true) (h : run TSpM gtab (sizeE bx) c_buffer_right (retG r_buffer_right (fun d1 bx1 => Rt (sizeE bx) bx1 d1 d bx')) ⟨env0 0 ds, bx⟩) : TSpM 32 ds bx d bx' := SpM_of mixed c_buffer_right r_buffer_right (fn := Try.f32) (by kernel_rfl) (by kernel_rfl) comp_buffer_right (by kernel_rfl) hn h
/-- (glazier/buffer.steps).count -/
def c_buffer_steps_count : C := .seq (.reg false [
  ⟨(some 1), none, .box true (.t 0), none⟩,
  ⟨(some 2), none, .mv false (.c (.int .i64 0)), none⟩] (some [1])) (
.seq (.reg false [
  ⟨(some 3), none, .fld 0 (.t 1), none⟩,
  ⟨(some 4), none, .ld none (.t 3), none⟩,
  ⟨(some 5), none, .len false (.t 4), none⟩,
  ⟨(some 2), none, .mv false (.t 5), none⟩] (some [2])) (
.ret))
set_option maxRecDepth 1000000 in
theorem comp_buffer_steps_count : (Try.f33.body.bind fun code => compC Try.prog Try.f33.ntmps code c_buffer_steps_count) = some c_buffer_steps_count.bare := by kernel_rfl
def r_buffer_steps_count : List R := [.t 2]
theorem spo_buffer_steps_count {ds : List D} {d : D} (hn : Nat.ble ds.length 6 = true) (h : run TSpM gtab 0 c_buffer_steps_count (retK r_buffer_steps_count (· = d)) ⟨env0 0 ds, []⟩) : TSp 33 ds d := Sp_of mixed c_buffer_steps_count r_buffer_steps_count (fn := Try.f33) (by kernel_rfl) (by kernel_rfl) comp_buffer_steps_count (by kernel_rfl) hn h
theorem spm_buffer_steps_count {ds : List D} {d : D} {bx bx' : List Ent} (hn : Nat.ble ds.length 6 = true) (h : run TSpM gtab (sizeE bx) c_buffer_steps_count (retG r_buffer_steps_count (fun d1 bx1 => Rt (sizeE bx) bx1 d1 d bx')) ⟨env0 0 ds, bx⟩) : TSpM 33 ds bx d bx' := SpM_of mixed c_buffer_steps_count r_buffer_steps_count (fn := Try.f33) (by kernel_rfl) (by kernel_rfl) comp_buffer_steps_count (by kernel_rfl) hn h
/-- (glazier/buffer.steps).last -/
def c_buffer_steps_last : C := .seq (.reg false [
  ⟨(some 1), none, .box true (.t 0), none⟩,
  ⟨(some 2), none, .alloc [(.int .i64 0), (.str []), (.str [])], none⟩] (some [1, 2])) (
.seq (.reg false [
  ⟨(some 3), none, .fld 0 (.t 1), none⟩,
  ⟨(some 4), none, .ld none (.t 3), none⟩,
  ⟨(some 5), none, .fld 0 (.t 1), none⟩,
  ⟨(some 6), none, .ld none (.t 5), none⟩,
  ⟨(some 7), none, .len false (.t 6), none⟩,
  ⟨(some 8), none, .bin .sub .i64 (.t 7) (.c (.int .i64 1)), none⟩,
  ⟨(some 9), none, .ixs 3 (.t 4) (.t 8), none⟩,
  ⟨(some 10), none, .ld (some 3) (.t 9), none⟩,
  ⟨none, none, .st (some 3) (.t 2) (.t 10), none⟩] (some [2])) (
.ret))
set_option maxRecDepth 1000000 in
theorem comp_buffer_steps_last : (Try.f34.body.bind fun code => compC Try.prog Try.f34.ntmps code c_buffer_steps_last) = some c_buffer_steps_last.bare := by kernel_rfl
def r_buffer_steps_last : List R := [.cell 2 (some 3)]
theorem spo_buffer_steps_last {ds : List D} {d : D} (hn : Nat.ble ds.length 11 = true) (h : run TSpM gtab 0 c_buffer_steps_last (retK r_buffer_steps_last (· = d)) ⟨env0 0 ds, []⟩) : TSp 34 ds d := Sp_of mixed c_buffer_steps_last r_buffer_steps_last (fn := Try.f34) (by kernel_rfl) (by kernel_rfl) comp_buffer_steps_last (by kernel_rfl) hn h
theorem spm_buffer_steps_last {ds : List D} {d : D} {bx bx' : List Ent} (hn : Nat.ble ds.length 11 = true) (h : run TSpM gtab (sizeE bx) c_buffer_steps_last (retG r_buffer_steps_last (fun d1 bx1 => Rt (sizeE bx) bx1 d1 d bx')) ⟨env0 0 ds, bx⟩) : TSpM 34 ds bx d bx' := SpM_of mixed c_buffer_steps_last r_buffer_steps_last (fn := Try.f34) (by kernel_rfl) (by kernel_rfl) comp_buffer_steps_last (by kernel_rfl) hn h
/-- (glazier/buffer.steps).less -/
def c_buffer_steps_less : C := .seq (.reg false [
  ⟨(some 1), none, .box true (.t 0), none⟩,
  ⟨(some 2), none, .alloc [(.ls 3 [])], none⟩] (some [1, 2])) (
.seq (.reg false [
  ⟨(some 3), none, .fld 0 (.t 1), none⟩,
  ⟨(some 4), none, .ld none (.t 3), none⟩,
  ⟨(some 5), none, .fld 0 (.t 1), none⟩,
  ⟨(some 6), none, .ld none (.t 5), none⟩,
  ⟨(some 7), none, .len false (.t 6), none⟩,
  ⟨(some 8), none, .bin .sub .i64 (.t 7) (.c (.int .i64 1)), none⟩,
  ⟨(some 9), none, .sls false 3 (.t 4) none (some (.t 8)), none⟩,
  ⟨(some 10), none, .bld [(.ls 3 [])] [(0, none, (.t 9))], none⟩,
  ⟨none, none, .st (some 1) (.t 2) (.t 10), none⟩] (some [2])) (
.ret))
set_option maxRecDepth 1000000 in
theorem comp_buffer_steps_less : (Try.f35.body.bind fun code => compC Try.prog Try.f35.ntmps code c_buffer_steps_less) = some c_buffer_steps_less.bare := by kernel_rfl
def r_buffer_steps_less : List R := [.cell 2 (some 1)]
theorem spo_buffer_steps_less {ds : List D} {d : D} (hn : Nat.ble ds.length 11 = true) (h : run TSpM gtab 0 c_buffer_steps_less (retK r_buffer_steps_less (· = d)) ⟨env0 0 ds, []⟩) : TSp 35 ds d := Sp_of mixed c_buffer_steps_less r_buffer_steps_less (fn := Try.f35) (by kernel_rfl) (by kernel_rfl) comp_buffer_steps_less (by kernel_rfl) hn h
theorem spm_buffer_steps_less {ds : List D} {d : D} {bx bx' : List Ent} (hn : Nat.ble ds.length 11 = true) (h : run TSpM gtab (sizeE bx) c_buffer_steps_less (retG r_buffer_steps_less (fun d1 bx1 => Rt (sizeE bx) bx1 d1 d bx')) ⟨env0 0 ds, bx⟩) : TSpM 35 ds bx d bx' := SpM_of mixed c_buffer_steps_less r_buffer_steps_less (fn := Try.f35) (by kernel_rfl) (by kernel_rfl) comp_buffer_steps_less (by kernel_rfl) hn h
/-- (glazier/buffer.steps).with -/
def c_buffer_steps_with : C := .seq (.reg false [
  ⟨(some 2), none, .box true (.t 0), none⟩,
  ⟨(some 3), none, .box true (.t 1), none⟩,
  ⟨(some 4), none, .alloc [(.ls 3 [])], none⟩] (some [2, 3, 4])) (
.seq (.reg false [
  ⟨(some 7), none, .fld 0 (.t 2), none⟩,
  ⟨(some 8), none, .ld none (.t 7), none⟩,
  ⟨(some 5), none, .mv false (.t 8), none⟩] (some [3, 4, 5])) (
.seq (.seq (.reg false [
  ⟨(some 9), none, .mv false (.t 5), none⟩,
  ⟨(some 10), none, .len false (.t 9), none⟩,
  ⟨(some 11), none, .bin .geq .i64 (.t 10) (.c (.int .i64 256)), none⟩] (some [3, 4, 5, 11])) (
.ite (.t 11) (
  .reg false [
    ⟨(some 12), none, .mv false (.t 5), none⟩,
    ⟨(some 13), none, .mv false (.t 5), none⟩,
    ⟨(some 14), none, .len false (.t 13), none⟩,
    ⟨(some 15), none, .bin .sub .i64 (.t 14) (.c (.int .i64 256)), none⟩,
    ⟨(some 16), none, .bin .add .i64 (.t 15) (.c (.int .i64 1)), none⟩,
    ⟨(some 17), none, .sls false 3 (.t 12) (some (.t 16)) none, none⟩,
    ⟨(some 5), none, .mv false (.t 17), none⟩] (some [3, 4, 5])) (
  .skip))) (
.seq (.reg false [
  ⟨(some 18), none, .mv false (.t 5), none⟩,
  ⟨(some 19), none, .len false (.t 18), none⟩,
  ⟨(some 20), none, .bin .add .i64 (.t 19) (.c (.int .i64 1)), none⟩,
  ⟨(some 21), none, .mks 67 3 (some 3) [(.int .i64 0), (.str []), (.str [])] (.c (.int .i64 0)) (.t 20), none⟩,
  ⟨(some 6), none, .mv false (.t 21), none⟩] (some [3, 4, 5, 6])) (
.seq (.reg false [
  ⟨(some 22), none, .mv false (.t 6), none⟩,
  ⟨(some 23), none, .mv false (.t 5), none⟩,
  ⟨(some 24), none, .app 67 3 40 (.t 22) (.t 23), none⟩,
  ⟨(some 6), none, .mv false (.t 24), none⟩] (some [3, 4, 6])) (
.seq (.reg false [
  ⟨(some 25), none, .mv false (.t 6), none⟩,
  ⟨(some 26), none, .ld (some 3) (.t 3), none⟩,
  ⟨(some 27), none, .bsl none 67 3 (some 3) [(.t 26)], none⟩,
  ⟨(some 28), none, .app 67 3 40 (.t 25) (.t 27), none⟩,
  ⟨(some 29), none, .bld [(.ls 3 [])] [(0, none, (.t 28))], none⟩,
  ⟨none, none, .st (some 1) (.t 4) (.t 29), none⟩] (some [4])) (
.ret))))))
set_option maxRecDepth 1000000 in
theorem comp_buffer_steps_with : (Try.f36.body.bind fun code => compC Try.prog Try.f36.ntmps code c_buffer_steps_with) = some c_buffer_steps_with.bare := by kernel_rfl
def r_buffer_steps_with : List R := [.cell 4 (some 1)]
theorem spo_buffer_steps_with {ds : List D} {d : D} (hn : Nat.ble ds.length 30 = true) (h : run TSpM gtab 0 c_buffer_steps_with (retK r_buffer_steps_with (· = d)) ⟨env0 0 ds, []⟩) : TSp 36 ds d := Sp_of mixed c_buffer_steps_with r_buffer_steps_with (fn := Try.f36) (by kernel_rfl) (by kernel_rfl) comp_buffer_steps_with (by kernel_rfl) hn h
theorem spm_buffer_steps_with {ds : List D} {d : D} {bx bx' : List Ent} (hn : Nat.ble ds.length 30 = true) (h : run TSpM gtab (sizeE bx) c_buffer_steps_with (retG r_buffer_steps_with (fun d1 bx1 => Rt (sizeE bx) bx1 d1 d bx')) ⟨env0 0 ds, bx⟩) : TSpM 36 ds bx d bx' := SpM_of mixed c_buffer_steps_with r_buffer_steps_with (fn := Try.f36) (by kernel_rfl) (by kernel_rfl) comp_buffer_steps_with (by kernel_rfl) hn h
/-- (glazier/buffer.Buffer).changed -/
def c_buffer_Buffer_changed : C := .seq (.reg false [
  ⟨(some 2), none, .box true (.t 0), none⟩,
  ⟨(some 3), none, .box true (.t 1), none⟩,
  ⟨(some 4), none, .alloc [(.ls 3 []), (.ls 3 []), (.str [])], none⟩] (some [2, 3, 4])) (
.seq (.reg true [
  ⟨(some 5), none, .fld 0 (.t 2), none⟩,
  ⟨(some 6), none, .fld 0 (.t 5), none⟩,
  ⟨(some 7), none, .ld (some 1) (.t 6), none⟩,
  ⟨(some 8), none, .ld (some 3) (.t 3), none⟩,
  ⟨(some 9), none, .call false 36 [(.t 7), (.t 8)], none⟩,
  ⟨(some 10), none, .bld [(.ls 3 [])] [(0, (some 1), (.t 9))], none⟩,
  ⟨(some 11), none, .fld 2 (.t 2), none⟩,
  ⟨(some 12), none, .ld none (.t 11), none⟩,
  ⟨(some 13), none, .fld 0 (.t 3), none⟩,
  ⟨(some 14), none, .ld none (.t 13), none⟩,
  ⟨(some 15), none, .sst (.t 12) none (some (.t 14)), none⟩,
  ⟨(some 16), none, .fld 2 (.t 3), none⟩,
  ⟨(some 17), none, .ld none (.t 16), none⟩,
  ⟨(some 18), none, .cat (.t 15) (.t 17), none⟩,
  ⟨(some 19), none, .fld 2 (.t 2), none⟩,
  ⟨(some 20), none, .ld none (.t 19), none⟩,
  ⟨(some 21), none, .fld 0 (.t 3), none⟩,
  ⟨(some 22), none, .ld none (.t 21), none⟩,
  ⟨(some 23), none, .fld 1 (.t 3), none⟩,
  ⟨(some 24), none, .ld none (.t 23), none⟩,
  ⟨(some 25), none, .len true (.t 24), none⟩,
  ⟨(some 26), none, .bin .add .i64 (.t 22) (.t 25), none⟩,
  ⟨(some 27), none, .sst (.t 20) (some (.t 26)) none, none⟩,
  ⟨(some 28), none, .cat (.t 18) (.t 27), none⟩,
  ⟨(some 29), none, .bld [(.ls 3 []), (.ls 3 []), (.str [])] [(0, (some 1), (.t 10)), (2, none, (.t 28))], none⟩,
  ⟨none, none, .st (some 3) (.t 4) (.t 29), none⟩] (some [4])) (
.ret))
set_option maxRecDepth 1000000 in
theorem comp_buffer_Buffer_changed : (Try.f37.body.bind fun code => compC Try.prog Try.f37.ntmps code c_buffer_Buffer_changed) = some c_buffer_Buffer_changed.bare := by kernel_rfl
def r_buffer_Buffer_changed : List R := [.cell 4 (some 3)]
theorem spo_buffer_Buffer_changed {ds : List D} {d : D} (hn : Nat.ble ds.length 30 = true) (h : run TSpM gtab 0 c_buffer_Buffer_changed (retK r_buffer_Buffer_changed (· = d)) ⟨env0 0 ds, []⟩) : TSp 37 ds d := Sp_of mixed c_buffer_Buffer_changed r_buffer_Buffer_changed (fn := Try.f37) (by kernel_rfl) (by kernel_rfl) comp_buffer_Buffer_changed (by kernel_rfl) hn h
theorem spm_buffer_Buffer_changed {ds : List D} {d : D} {bx bx' : List Ent} (hn : Nat.ble ds.length 30 = true) (h : run TSpM gtab (sizeE bx) c_buffer_Buffer_changed (retG r_buffer_Buffer_changed (fun d1 bx1 => Rt (sizeE bx) bx1 d1 d bx')) ⟨env0 0 ds, bx⟩) : TSpM 37 ds bx d bx' := SpM_of mixed c_buffer_Buffer_changed r_buffer_Buffer_changed (fn := Try.f37) (by kernel_rfl) (by kernel_rfl) comp_buffer_Buffer_changed (by kernel_rfl) hn h
/-- glazier/glazierref54.Insert -/
def c_ref54_Insert : C := .seq (.reg false [
  ⟨(some 3), none, .box true (.t 0), none⟩,
  ⟨(some 6), none, .alloc [(.ls 1 []), (.int .i64 0)], none⟩,
  ⟨(some 7), none, .mv false (.c (.int .i64 0)), none⟩] (some [1, 2, 3, 6])) (
.seq (.reg false [
  ⟨(some 9), none, .ld (some 2) (.t 3), none⟩,
  ⟨(some 10), none, .call false 22 [(.t 9)], none⟩,
  ⟨(some 8), none, .mv false (.t 10), none⟩] (some [1, 2, 3, 6, 8])) (
.seq (.seq (.reg false [
  ⟨(some 11), none, .mv false (.t 2), none⟩,
  ⟨(some 12), none, .eqb false true (.t 11) (.c (.str [])), none⟩] (some [1, 2, 3, 6, 8, 12])) (
.ite (.t 12) (
  .seq (.reg false [
    ⟨(some 13), none, .ld (some 2) (.t 3), none⟩,
    ⟨none, none, .st (some 2) (.t 6) (.t 13), none⟩,
    ⟨(some 7), none, .mv false (.c (.int .i64 13)), none⟩] (some [6, 7])) (
  .ret)) (
  .skip))) (
.seq (.seq (.reg false [
  ⟨(some 14), none, .mv false (.t 1), none⟩,
  ⟨(some 15), none, .bin .lss .i64 (.t 14) (.c (.int .i64 0)), none⟩,
  ⟨(some 16), none, .mv false (.t 15), none⟩,
  ⟨(some 17), some (16, false), .mv false (.t 1), none⟩,
  ⟨(some 18), some (16, false), .mv false (.t 8), none⟩,
  ⟨(some 19), some (16, false), .len true (.t 18), none⟩,
  ⟨(some 20), some (16, false), .bin .gtr .i64 (.t 17) (.t 19), none⟩,
  ⟨(some 21), none, .pick (.t 16) (.c (.bool true)) (.t 20), none⟩] (some [1, 2, 3, 6, 8, 21])) (
.ite (.t 21) (
  .seq (.reg false [
    ⟨(some 22), none, .ld (some 2) (.t 3), none⟩,
    ⟨none, none, .st (some 2) (.t 6) (.t 22), none⟩,
    ⟨(some 7), none, .mv false (.c (.int .i64 1)), none⟩] (some [6, 7])) (
  .ret)) (
  .skip))) (
.seq (.seq (.reg false [
  ⟨(some 23), none, .mv false (.t 2), none⟩,
  ⟨(some 24), none, .call false 12 [(.t 23)], none⟩,
  ⟨(some 25), none, .not (.t 24), none⟩] (some [1, 2, 3, 6, 8, 25])) (
.ite (.t 25) (
  .seq (.reg false [
    ⟨(some 26), none, .ld (some 2) (.t 3), none⟩,
    ⟨none, none, .st (some 2) (.t 6) (.t 26), none⟩,
    ⟨(some 7), none, .mv false (.c (.int .i64 2)), none⟩] (some [6, 7])) (
  .ret)) (
  .skip))) (
.seq (.seq (.reg false [
  ⟨(some 27), none, .mv false (.t 8), none⟩,
  ⟨(some 28), none, .len true (.t 27), none⟩,
  ⟨(some 29), none, .mv false (.t 2), none⟩,
  ⟨(some 30), none, .len true (.t 29), none⟩,
  ⟨(some 31), none, .bin .add .i64 (.t 28) (.t 30), none⟩,
  ⟨(some 32), none, .bin .gtr .i64 (.t 31) (.c (.int .i64 65536)), none⟩] (some [1, 2, 3, 6, 8, 32])) (
.ite (.t 32) (
  .seq (.reg false [
    ⟨(some 33), none, .ld (some 2) (.t 3), none⟩,
    ⟨none, none, .st (some 2) (.t 6) (.t 33), none⟩,
    ⟨(some 7), none, .mv false (.c (.int .i64 4)), none⟩] (some [6, 7])) (
  .ret)) (
  .skip))) (
.seq (.reg true [
  ⟨(some 34), none, .ld (some 2) (.t 3), none⟩,
  ⟨(some 35), none, .mv false (.t 8), none⟩,
  ⟨(some 36), none, .mv false (.t 1), none⟩,
  ⟨(some 37), none, .sst (.t 35) none (some (.t 36)), none⟩,
  ⟨(some 38), none, .mv false (.t 2), none⟩,
  ⟨(some 39), none, .cat (.t 37) (.t 38), none⟩,
  ⟨(some 40), none, .mv false (.t 8), none⟩,
  ⟨(some 41), none, .mv false (.t 1), none⟩,
  ⟨(some 42), none, .sst (.t 40) (some (.t 41)) none, none⟩,
  ⟨(some 43), none, .cat (.t 39) (.t 42), none⟩,
  ⟨(some 44), none, .call false 49 [(.t 34), (.t 43)], none⟩,
  ⟨none, none, .st (some 2) (.t 6) (.t 44), none⟩,
  ⟨(some 7), none, .mv false (.c (.int .i64 0)), none⟩] (some [6, 7])) (
.ret)))))))
set_option maxRecDepth 1000000 in
theorem comp_ref54_Insert : (Try.f38.body.bind fun code => compC Try.prog Try.f38.ntmps code c_ref54_Insert) = some c_ref54_Insert.bare := by kernel_rfl
def r_ref54_Insert : List R := [.cell 6 (some 2), .t 7]
theorem spo_ref54_Insert {ds : List D} {d : D} (hn : Nat.ble ds.length 45 = true) (h : run TSpM gtab 0 c_ref54_Insert (retK r_ref54_Insert (· = d)) ⟨env0 0 ds, []⟩) : TSp 38 ds d := Sp_of mixed c_ref54_Insert r_ref54_Insert (fn := Try.f38) (by kernel_rfl) (by kernel_rfl) comp_ref54_Insert (by kernel_rfl) hn h
theorem spm_ref54_Insert {ds : List D} {d : D} {bx bx' : List Ent} (hn : Nat.ble ds.length 45 = true) (h : run TSpM gtab (sizeE bx) c_ref54_Insert (retG r_ref54_Insert (fun d1 bx1 => Rt (sizeE bx) bx1 d1 d bx')) ⟨env0 0 ds, bx⟩) : TSpM 38 ds bx d bx' := SpM_of mixed c_ref54_Insert r_ref54_Insert (fn := Try.f38) (by kernel_rfl) (by kernel_rfl) comp_ref54_Insert (by kernel_rfl) hn h
/-- glazier/glazierref54.Delete -/
def c_ref54_Delete : C := .seq (.reg false [
  ⟨(some 3), none, .box true (.t 0), none⟩,
  ⟨(some 6), none, .alloc [(.ls 1 []), (.int .i64 0)], none⟩,
  ⟨(some 7), none, .mv false (.c (.int .i64 0)), none⟩] (some [1, 2, 3, 6])) (
.seq (.reg false [
  ⟨(some 9), none, .ld (some 2) (.t 3), none⟩,
  ⟨(some 10), none, .call false 22 [(.t 9)], none⟩,
  ⟨(some 8), none, .mv false (.t 10), none⟩] (some [1, 2, 3, 6, 8])) (
.seq (.seq (.reg false [
  ⟨(some 11), none, .mv false (.t 1), none⟩,
  ⟨(some 12), none, .bin .lss .i64 (.t 11) (.c (.int .i64 0)), none⟩,
  ⟨(some 13), none, .mv false (.t 12), none⟩,
  ⟨(some 14), some (13, false), .mv false (.t 1), none⟩,
  ⟨(some 15), some (13, false), .mv false (.t 2), none⟩,
  ⟨(some 16), some (13, false), .bin .gtr .i64 (.t 14) (.t 15), none⟩,
  ⟨(some 17), none, .pick (.t 13) (.c (.bool true)) (.t 16), none⟩,
  ⟨(some 18), none, .mv false (.t 17), none⟩,
  ⟨(some 19), some (18, false), .mv false (.t 2), none⟩,
  ⟨(some 20), some (18, false), .mv false (.t 8), none⟩,
  ⟨(some 21), some (18, false), .len true (.t 20), none⟩,
  ⟨(some 22), some (18, false), .bin .gtr .i64 (.t 19) (.t 21), none⟩,
  ⟨(some 23), none, .pick (.t 18) (.c (.bool true)) (.t 22), none⟩] (some [1, 2, 3, 6, 8, 23])) (
.ite (.t 23) (
  .seq (.reg false [
    ⟨(some 24), none, .ld (some 2) (.t 3), none⟩,
    ⟨none, none, .st (some 2) (.t 6) (.t 24), none⟩,
    ⟨(some 7), none, .mv false (.c (.int .i64 1)), none⟩] (some [6, 7])) (
  .ret)) (
  .skip))) (
.seq (.seq (.reg false [
  ⟨(some 25), none, .mv false (.t 1), none⟩,
  ⟨(some 26), none, .mv false (.t 2), none⟩,
  ⟨(some 27), none, .bin .eql .i64 (.t 25) (.t 26), none⟩] (some [1, 2, 3, 6, 8, 27])) (
.ite (.t 27) (
  .seq (.reg false [
    ⟨(some 28), none, .ld (some 2) (.t 3), none⟩,
    ⟨none, none, .st (some 2) (.t 6) (.t 28), none⟩,
    ⟨(some 7), none, .mv false (.c (.int .i64 13)), none⟩] (some [6, 7])) (
  .ret)) (
  .skip))) (
.seq (.reg true [
  ⟨(some 29), none, .ld (some 2) (.t 3), none⟩,
  ⟨(some 30), none, .mv false (.t 8), none⟩,
  ⟨(some 31), none, .mv false (.t 1), none⟩,
  ⟨(some 32), none, .sst (.t 30) none (some (.t 31)), none⟩,
  ⟨(some 33), none, .mv false (.t 8), none⟩,
  ⟨(some 34), none, .mv false (.t 2), none⟩,
  ⟨(some 35), none, .sst (.t 33) (some (.t 34)) none, none⟩,
  ⟨(some 36), none, .cat (.t 32) (.t 35), none⟩,
  ⟨(some 37), none, .call false 49 [(.t 29), (.t 36)], none⟩,
  ⟨none, none, .st (some 2) (.t 6) (.t 37), none⟩,
  ⟨(some 7), none, .mv false (.c (.int .i64 0)), none⟩] (some [6, 7])) (
.ret)))))
set_option maxRecDepth 1000000 in
theorem comp_ref54_Delete : (Try.f39.body.bind fun code => compC Try.prog Try.f39.ntmps code c_ref54_Delete) = some c_ref54_Delete.bare := by kernel_rfl
def r_ref54_Delete : List R := [.cell 6 (some 2), .t 7]
theorem spo_ref54_Delete {ds : List D} {d : D} (hn : Nat.ble ds.length 38 = true) (h : run TSpM gtab 0 c_ref54_Delete (retK r_ref54_Delete (· = d)) ⟨env0 0 ds, []⟩) : TSp 39 ds d := Sp_of mixed c_ref54_Delete r_ref54_Delete (fn := Try.f39) (by kernel_rfl) (by kernel_rfl) comp_ref54_Delete (by kernel_rfl) hn h
theorem spm_ref54_Delete {ds : List D} {d : D} {bx bx' : List Ent} (hn : Nat.ble ds.length 38 = true) (h : run TSpM gtab (sizeE bx) c_ref54_Delete (retG r_ref54_Delete (fun d1 bx1 => Rt (sizeE bx) bx1 d1 d bx')) ⟨env0 0 ds, bx⟩) : TSpM 39 ds bx d bx' := SpM_of mixed c_ref54_Delete r_ref54_Delete (fn := Try.f39) (by kernel_rfl) (by kernel_rfl) comp_ref54_Delete (by kernel_rfl) hn h
/-- strings.Count -/
def c_strings_Count : C := .seq (.reg false [
  ⟨(some 4), none, .mv false (.c (.int .i64 0)), none⟩] (some [0, 1])) (
.seq (.seq (.reg false [
  ⟨(some 7), none, .mv false (.t 1), none⟩,
  ⟨(some 8), none, .len true (.t 7), none⟩,
  ⟨(some 9), none, .bin .eql .i64 (.t 8) (.c (.int .i64 0)), none⟩] (some [0, 1, 9])) (
.ite (.t 9) (
  .seq (.reg false [
    ⟨(some 10), none, .mv false (.t 0), none⟩,
    ⟨(some 11), none, .call false 50 [(.t 10)], none⟩,
    ⟨(some 12), none, .bin .add .i64 (.t 11) (.c (.int .i64 1)), none⟩,
    ⟨(some 4), none, .mv false (.t 12), none⟩] (some [4])) (
  .ret)) (
  .skip))) (
.seq (.seq (.reg false [
  ⟨(some 13), none, .mv false (.t 1), none⟩,
  ⟨(some 14), none, .len true (.t 13), none⟩,
  ⟨(some 15), none, .bin .eql .i64 (.t 14) (.c (.int .i64 1)), none⟩] (some [0, 1, 15])) (
.ite (.t 15) (
  .seq (.reg false [
    ⟨(some 16), none, .mv false (.t 0), none⟩,
    ⟨(some 17), none, .mv false (.t 1), none⟩,
    ⟨(some 18), none, .sidx (.t 17) (.c (.int .i64 0)), none⟩,
    ⟨(some 19), none, .call false 51 [(.t 16), (.t 18)], none⟩,
    ⟨(some 4), none, .mv false (.t 19), none⟩] (some [4])) (
  .ret)) (
  .skip))) (
.seq (.reg false [
  ⟨(some 5), none, .mv false (.c (.int .i64 0)), none⟩] (some [0, 1, 5])) (
.blk 0 (
  .loop (
    .blk 1 (
      .seq (.reg false [
        ⟨(some 20), none, .mv false (.t 0), none⟩,
        ⟨(some 21), none, .mv false (.t 1), none⟩,
        ⟨(some 22), none, .call false 52 [(.t 20), (.t 21)], none⟩,
        ⟨(some 6), none, .mv false (.t 22), none⟩] (some [0, 1, 5, 6])) (
      .seq (.seq (.reg false [
        ⟨(some 23), none, .mv false (.t 6), none⟩,
        ⟨(some 24), none, .bin .eql .i64 (.t 23) (.c (.int .i64 (-1))), none⟩] (some [0, 1, 5, 6, 24])) (
      .ite (.t 24) (
        .seq (.reg false [
          ⟨(some 25), none, .mv false (.t 5), none⟩,
          ⟨(some 4), none, .mv false (.t 25), none⟩] (some [4])) (
        .ret)) (
        .skip))) (
      .seq (.reg false [
        ⟨(some 26), none, .mv false (.t 5), none⟩,
        ⟨(some 27), none, .bin .add .i64 (.t 26) (.c (.int .i64 1)), none⟩,
        ⟨(some 5), none, .mv false (.t 27), none⟩] (some [0, 1, 5, 6])) (
      .reg false [
        ⟨(some 28), none, .mv false (.t 0), none⟩,
        ⟨(some 29), none, .mv false (.t 6), none⟩,
        ⟨(some 30), none, .mv false (.t 1), none⟩,
        ⟨(some 31), none, .len true (.t 30), none⟩,
        ⟨(some 32), none, .bin .add .i64 (.t 29) (.t 31), none⟩,
        ⟨(some 33), none, .sst (.t 28) (some (.t 32)) none, none⟩,
        ⟨(some 0), none, .mv false (.t 33), none⟩] (some [0, 1, 5])))))))))))
set_option maxRecDepth 1000000 in
theorem comp_strings_Count : (Try.f40.body.bind fun code => compC Try.prog Try.f40.ntmps code c_strings_Count) = some c_strings_Count.bare := by kernel_rfl
def r_strings_Count : List R := [.t 4]
theorem spo_strings_Count {ds : List D} {d : D} (hn : Nat.ble ds.length 34 = true) (h : run TSpM gtab 0 c_strings_Count (retK r_strings_Count (· = d)) ⟨env0 0 ds, []⟩) : TSp 40 ds d := Sp_of mixed c_strings_Count r_strings_Count (fn := Try.f40) (by kernel_rfl) (by kernel_rfl) comp_strings_Count (by kernel_rfl) hn h
theorem spm_strings_Count {ds : List D} {d : D} {bx bx' : List Ent} (hn : Nat.ble ds.length 34 = true) (h : run TSpM gtab (sizeE bx) c_strings_Count (retG r_strings_Count (fun d1 bx1 => Rt (sizeE bx) bx1 d1 d bx')) ⟨env0 0 ds, bx⟩) : TSpM 40 ds bx d bx' := SpM_of mixed c_strings_Count r_strings_Count (fn := Try.f40) (by kernel_rfl) (by kernel_rfl) comp_strings_Count (by kernel_rfl) hn h
/-- strings.LastIndexByte -/
def c_strings_LastIndexByte : C := .seq (.reg false [
  ⟨(some 4), none, .mv false (.c (.int .i64 0)), none⟩] (some [0, 1])) (
.seq (.reg false [
  ⟨(some 5), none, .mv false (.t 0), none⟩,
  ⟨(some 6), none, .mv false (.t 1), none⟩,
  ⟨(some 7), none, .call false 53 [(.t 5), (.t 6)], none⟩,
  ⟨(some 4), none, .mv false (.t 7), none⟩] (some [4])) (
.ret))
set_option maxRecDepth 1000000 in
theorem comp_strings_LastIndexByte : (Try.f41.body.bind fun code => compC Try.prog Try.f41.ntmps code c_strings_LastIndexByte) = some c_strings_LastIndexByte.bare := by kernel_rfl
def r_strings_LastIndexByte : List R := [.t 4]
theorem spo_strings_LastIndexByte {ds : List D} {d : D} (hn : Nat.ble ds.length 8 = true) (h : run TSpM gtab 0 c_strings_LastIndexByte (retK r_strings_LastIndexByte (· = d)) ⟨env0 0 ds, []⟩) : TSp 41 ds d := Sp_of mixed c_strings_LastIndexByte r_strings_LastIndexByte (fn := Try.f41) (by kernel_rfl) (by kernel_rfl) comp_strings_LastIndexByte (by kernel_rfl) hn h
theorem spm_strings_LastIndexByte {ds : List D} {d : D} {bx bx' : List Ent} (hn : Nat.ble ds.length 8 = true) (h : run TSpM gtab (sizeE bx) c_strings_LastIndexByte (retG r_strings_LastIndexByte (fun d1 bx1 => Rt (sizeE bx) bx1 d1 d bx')) ⟨env0 0 ds, bx⟩) : TSpM 41 ds bx d bx' := SpM_of mixed c_strings_LastIndexByte r_strings_LastIndexByte (fn := Try.f41) (by kernel_rfl) (by kernel_rfl) comp_strings_LastIndexByte (by kernel_rfl) hn h
/-- (glazier/buffer.Buffer).bounds -/
def c_buffer_Buffer_bounds : C := .seq (.reg false [
  ⟨(some 2), none, .box true (.t 0), none⟩,
  ⟨(some 4), none, .mv false (.c (.int .i64 0)), none⟩,
  ⟨(some 5), none, .mv false (.c (.int .i64 0)), none⟩] (some [1, 2])) (
.seq (.reg false [
  ⟨(some 6), none, .mv false (.c (.int .i64 0)), none⟩] (some [1, 2, 6])) (
.seq (.seq (.reg false [
  ⟨(some 8), none, .mv false (.t 1), none⟩,
  ⟨(some 9), none, .mv false (.c (.int .i64 0)), none⟩] (some [2, 6, 8, 9])) (
.blk 0 (
  .loop (
    .seq (.reg false [
      ⟨(some 10), none, .bin .lss .i64 (.t 9) (.t 8), none⟩] (some [2, 6, 8, 9, 10])) (
    .seq (.ite (.t 10) (
      .skip) (
      .exit 0)) (
    .seq (.blk 1 (
      .reg false [
        ⟨(some 11), none, .mv false (.t 6), none⟩,
        ⟨(some 12), none, .fld 2 (.t 2), none⟩,
        ⟨(some 13), none, .ld none (.t 12), none⟩,
        ⟨(some 14), none, .mv false (.t 6), none⟩,
        ⟨(some 15), none, .sst (.t 13) (some (.t 14)) none, none⟩,
        ⟨(some 16), none, .call false 54 [(.t 15), (.c (.int .u8 10))], none⟩,
        ⟨(some 17), none, .bin .add .i64 (.t 16) (.c (.int .i64 1)), none⟩,
        ⟨(some 18), none, .bin .add .i64 (.t 11) (.t 17), none⟩,
        ⟨(some 6), none, .mv false (.t 18), none⟩] (some [2, 6, 8, 9]))) (
    .reg false [
      ⟨(some 19), none, .bin .add .i64 (.t 9) (.c (.int .i64 1)), none⟩,
      ⟨(some 9), none, .mv false (.t 19), none⟩] (some [2, 6, 8, 9])))))))) (
.seq (.seq (.reg false [
  ⟨(some 20), none, .fld 2 (.t 2), none⟩,
  ⟨(some 21), none, .ld none (.t 20), none⟩,
  ⟨(some 22), none, .mv false (.t 6), none⟩,
  ⟨(some 23), none, .sst (.t 21) (some (.t 22)) none, none⟩,
  ⟨(some 24), none, .call false 54 [(.t 23), (.c (.int .u8 10))], none⟩,
  ⟨(some 7), none, .mv false (.t 24), none⟩] (some [2, 6, 7])) (
.seq (.reg false [
  ⟨(some 25), none, .mv false (.t 7), none⟩,
  ⟨(some 26), none, .bin .geq .i64 (.t 25) (.c (.int .i64 0)), none⟩] (some [2, 6, 7, 26])) (
.ite (.t 26) (
  .seq (.reg false [
    ⟨(some 27), none, .mv false (.t 6), none⟩,
    ⟨(some 28), none, .mv false (.t 6), none⟩,
    ⟨(some 29), none, .mv false (.t 7), none⟩,
    ⟨(some 30), none, .bin .add .i64 (.t 28) (.t 29), none⟩,
    ⟨(some 4), none, .mv false (.t 27), none⟩,
    ⟨(some 5), none, .mv false (.t 30), none⟩] (some [4, 5])) (
  .ret)) (
  .skip)))) (
.seq (.reg true [
  ⟨(some 31), none, .mv false (.t 6), none⟩,
  ⟨(some 32), none, .fld 2 (.t 2), none⟩,
  ⟨(some 33), none, .ld none (.t 32), none⟩,
  ⟨(some 34), none, .len true (.t 33), none⟩,
  ⟨(some 4), none, .mv false (.t 31), none⟩,
  ⟨(some 5), none, .mv false (.t 34), none⟩] (some [4, 5])) (
.ret)))))
set_option maxRecDepth 1000000 in
theorem comp_buffer_Buffer_bounds : (Try.f42.body.bind fun code => compC Try.prog Try.f42.ntmps code c_buffer_Buffer_bounds) = some c_buffer_Buffer_bounds.bare := by kernel_rfl
def r_buffer_Buffer_bounds : List R := [.t 4, .t 5]
theorem spo_buffer_Buffer_bounds {ds : List D} {d : D} (hn : Nat.ble ds.length 35 = true) (h : run TSpM gtab 0 c_buffer_Buffer_bounds (retK r_buffer_Buffer_bounds (· = d)) ⟨env0 0 ds, []⟩) : TSp 42 ds d := Sp_of mixed c_buffer_Buffer_bounds r_buffer_Buffer_bounds (fn := Try.f42) (by kernel_rfl) (by kernel_rfl) comp_buffer_Buffer_bounds (by kernel_rfl) hn h
theorem spm_buffer_Buffer_bounds {ds : List D} {d : D} {bx bx' : List Ent} (hn : Nat.ble ds.length 35 = true) (h : run TSpM gtab (sizeE bx) c_buffer_Buffer_bounds (retG r_buffer_Buffer_bounds (fun d1 bx1 => Rt (sizeE bx) bx1 d1 d bx')) ⟨env0 0 ds, bx⟩) : TSpM 42 ds bx d bx' := SpM_of mixed c_buffer_Buffer_bounds r_buffer_Buffer_bounds (fn := Try.f42) (by kernel_rfl) (by kernel_rfl) comp_buffer_Buffer_bounds (by kernel_rfl) hn h
/-- glazier/glazierref54.With -/
def c_ref54_With : C := .seq (.reg false [
  ⟨(some 2), none, .box true (.t 0), none⟩,
  ⟨(some 4), none, .alloc [(.ls 1 []), (.int .i64 0)], none⟩] (some [1, 2, 4])) (
.seq (.reg false [
  ⟨(some 5), none, .nilS 9 1, none⟩] (some [1, 2, 4, 5])) (
.seq (.seq (.reg false [
  ⟨(some 6), none, .fld 0 (.t 2), none⟩,
  ⟨(some 7), none, .ld none (.t 6), none⟩,
  ⟨(some 8), none, .len false (.t 7), none⟩,
  ⟨(some 9), none, .bin .eql .i64 (.t 8) (.c (.int .i64 0)), none⟩] (some [1, 2, 4, 5, 9])) (
.ite (.t 9) (
  .reg false [
    ⟨(some 10), none, .mv false (.t 5), none⟩,
    ⟨(some 11), none, .bsl none 9 1 none [(.c (.str []))], none⟩,
    ⟨(some 12), none, .app 9 1 16 (.t 10) (.t 11), none⟩,
    ⟨(some 5), none, .mv false (.t 12), none⟩] (some [1, 4, 5])) (
  .reg false [
    ⟨(some 13), none, .mv false (.t 5), none⟩,
    ⟨(some 14), none, .fld 0 (.t 2), none⟩,
    ⟨(some 15), none, .ld none (.t 14), none⟩,
    ⟨(some 16), none, .fld 1 (.t 2), none⟩,
    ⟨(some 17), none, .ld none (.t 16), none⟩,
    ⟨(some 18), none, .bin .add .i64 (.t 17) (.c (.int .i64 1)), none⟩,
    ⟨(some 19), none, .sls false 1 (.t 15) none (some (.t 18)), none⟩,
    ⟨(some 20), none, .app 9 1 16 (.t 13) (.t 19), none⟩,
    ⟨(some 5), none, .mv false (.t 20), none⟩] (some [1, 4, 5])))) (
.seq (.reg false [
  ⟨(some 21), none, .mv false (.t 5), none⟩,
  ⟨(some 22), none, .mv false (.t 1), none⟩,
  ⟨(some 23), none, .bsl none 9 1 none [(.t 22)], none⟩,
  ⟨(some 24), none, .app 9 1 16 (.t 21) (.t 23), none⟩,
  ⟨(some 5), none, .mv false (.t 24), none⟩] (some [4, 5])) (
.seq (.seq (.reg false [
  ⟨(some 25), none, .mv false (.t 5), none⟩,
  ⟨(some 26), none, .len false (.t 25), none⟩,
  ⟨(some 27), none, .bin .gtr .i64 (.t 26) (.c (.int .i64 257)), none⟩] (some [4, 5, 27])) (
.ite (.t 27) (
  .reg false [
    ⟨(some 28), none, .mv false (.t 5), none⟩,
    ⟨(some 29), none, .sls true 1 (.t 28) (some (.c (.int .i64 1))) none, none⟩,
    ⟨(some 5), none, .mv false (.t 29), none⟩] (some [4, 5])) (
  .skip))) (
.seq (.reg false [
  ⟨(some 30), none, .mv false (.t 5), none⟩,
  ⟨(some 31), none, .mv false (.t 5), none⟩,
  ⟨(some 32), none, .len false (.t 31), none⟩,
  ⟨(some 33), none, .bin .sub .i64 (.t 32) (.c (.int .i64 1)), none⟩,
  ⟨(some 34), none, .bld [(.ls 1 []), (.int .i64 0)] [(0, none, (.t 30)), (1, none, (.t 33))], none⟩,
  ⟨none, none, .st (some 2) (.t 4) (.t 34), none⟩] (some [4])) (
.ret))))))
set_option maxRecDepth 1000000 in
theorem comp_ref54_With : (Try.f49.body.bind fun code => compC Try.prog Try.f49.ntmps code c_ref54_With) = some c_ref54_With.bare := by kernel_rfl
def r_ref54_With : List R := [.cell 4 (some 2)]
theorem spo_ref54_With {ds : List D} {d : D} (hn : Nat.ble ds.length 35 = true) (h : run TSpM gtab 0 c_ref54_With (retK r_ref54_With (· = d)) ⟨env0 0 ds, []⟩) : TSp 49 ds d := Sp_of mixed c_ref54_With r_ref54_With (fn := Try.f49) (by kernel_rfl) (by kernel_rfl) comp_ref54_With (by kernel_rfl) hn h
theorem spm_ref54_With {ds : List D} {d : D} {bx bx' : List Ent} (hn : Nat.ble ds.length 35 = true) (h : run TSpM gtab (sizeE bx) c_ref54_With (retG r_ref54_With (fun d1 bx1 => Rt (sizeE bx) bx1 d1 d bx')) ⟨env0 0 ds, bx⟩) : TSpM 49 ds bx d bx' := SpM_of mixed c_ref54_With r_ref54_With (fn := Try.f49) (by kernel_rfl) (by kernel_rfl) comp_ref54_With (by kernel_rfl) hn h
/-- internal/bytealg.LastIndexByteString -/
def c_internal_bytealg_LastIndexByteString : C := .seq (.reg false [
  ⟨(some 4), none, .mv false (.c (.int .i64 0)), none⟩] (some [0, 1])) (
.seq (.seq (.reg false [
  ⟨(some 6), none, .mv false (.t 0), none⟩,
  ⟨(some 7), none, .len true (.t 6), none⟩,
  ⟨(some 8), none, .bin .sub .i64 (.t 7) (.c (.int .i64 1)), none⟩,
  ⟨(some 5), none, .mv false (.t 8), none⟩] (some [0, 1, 5])) (
.blk 0 (
  .loop (
    .seq (.seq (.reg false [
      ⟨(some 9), none, .mv false (.t 5), none⟩,
      ⟨(some 10), none, .bin .geq .i64 (.t 9) (.c (.int .i64 0)), none⟩] (some [0, 1, 5, 10])) (
    .ite (.t 10) (
      .skip) (
      .exit 0))) (
    .seq (.blk 1 (
      .seq (.reg false [
        ⟨(some 13), none, .mv false (.t 0), none⟩,
        ⟨(some 14), none, .mv false (.t 5), none⟩,
        ⟨(some 15), none, .sidx (.t 13) (.t 14), none⟩,
        ⟨(some 16), none, .mv false (.t 1), none⟩,
        ⟨(some 17), none, .bin .eql .u8 (.t 15) (.t 16), none⟩] (some [0, 1, 5, 17])) (
      .ite (.t 17) (
        .seq (.reg false [
          ⟨(some 18), none, .mv false (.t 5), none⟩,
          ⟨(some 4), none, .mv false (.t 18), none⟩] (some [4])) (
        .ret)) (
        .skip)))) (
    .reg false [
      ⟨(some 11), none, .mv false (.t 5), none⟩,
      ⟨(some 12), none, .bin .sub .i64 (.t 11) (.c (.int .i64 1)), none⟩,
      ⟨(some 5), none, .mv false (.t 12), none⟩] (some [0, 1, 5]))))))) (
.seq (.reg false [
  ⟨(some 4), none, .mv false (.c (.int .i64 (-1))), none⟩] (some [4])) (
.ret)))
set_option maxRecDepth 1000000 in
theorem comp_internal_bytealg_LastIndexByteString : (Try.f53.body.bind fun code => compC Try.prog Try.f53.ntmps code c_internal_bytealg_LastIndexByteString) = some c_internal_bytealg_LastIndexByteString.bare := by kernel_rfl
def r_internal_bytealg_LastIndexByteString : List R := [.t 4]
theorem spo_internal_bytealg_LastIndexByteString {ds : List D} {d : D} (hn : Nat.ble ds.length 19 = true) (h : run TSpM gtab 0 c_internal_bytealg_LastIndexByteString (retK r_internal_bytealg_LastIndexByteString (· = d)) ⟨env0 0 ds, []⟩) : TSp 53 ds d := Sp_of mixed c_internal_bytealg_LastIndexByteString r_internal_bytealg_LastIndexByteString (fn := Try.f53) (by kernel_rfl) (by kernel_rfl) comp_internal_bytealg_LastIndexByteString (by kernel_rfl) hn h
theorem spm_internal_bytealg_LastIndexByteString {ds : List D} {d : D} {bx bx' : List Ent} (hn : Nat.ble ds.length 19 = true) (h : run TSpM gtab (sizeE bx) c_internal_bytealg_LastIndexByteString (retG r_internal_bytealg_LastIndexByteString (fun d1 bx1 => Rt (sizeE bx) bx1 d1 d bx')) ⟨env0 0 ds, bx⟩) : TSpM 53 ds bx d bx' := SpM_of mixed c_internal_bytealg_LastIndexByteString r_internal_bytealg_LastIndexByteString (fn := Try.f53) (by kernel_rfl) (by kernel_rfl) comp_internal_bytealg_LastIndexByteString (by kernel_rfl) hn h
/-- strings.IndexByte -/
def c_strings_IndexByte : C := .seq (.reg false [
  ⟨(some 4), none, .mv false (.c (.int .i64 0)), none⟩] (some [0, 1])) (
.seq (.reg false [
  ⟨(some 5), none, .mv false (.t 0), none⟩,
  ⟨(some 6), none, .mv false (.t 1), none⟩,
  ⟨(some 7), none, .call false 61 [(.t 5), (.t 6)], none⟩,
  ⟨(some 4), none, .mv false (.t 7), none⟩] (some [4])) (
.ret))
set_option maxRecDepth 1000000 in
theorem comp_strings_IndexByte : (Try.f54.body.bind fun code => compC Try.prog Try.f54.ntmps code c_strings_IndexByte) = some c_strings_IndexByte.bare := by kernel_rfl
def r_strings_IndexByte : List R := [.t 4]
theorem spo_strings_IndexByte {ds : List D} {d : D} (hn : Nat.ble ds.length 8 = true) (h : run TSpM gtab 0 c_strings_IndexByte (retK r_strings_IndexByte (· = d)) ⟨env0 0 ds, []⟩) : TSp 54 ds d := Sp_of mixed c_strings_IndexByte r_strings_IndexByte (fn := Try.f54) (by kernel_rfl) (by kernel_rfl) comp_strings_IndexByte (by kernel_rfl) hn h
theorem spm_strings_IndexByte {ds : List D} {d : D} {bx bx' : List Ent} (hn : Nat.ble ds.length 8 = true) (h : run TSpM gtab (sizeE bx) c_strings_IndexByte (retG r_strings_IndexByte (fun d1 bx1 => Rt (sizeE bx) bx1 d1 d bx')) ⟨env0 0 ds, bx⟩) : TSpM 54 ds bx d bx' := SpM_of mixed c_strings_IndexByte r_strings_IndexByte (fn := Try.f54) (by kernel_rfl) (by kernel_rfl) comp_strings_IndexByte (by kernel_rfl) hn h
end Go.AM
