/- The functions' code, as the little machine has it (printed by Show.lean). -/
import Derived.Test.YtlmhekbbagpnjaaDoorA22
import Derived.Test.YtlmhekbbagpnjaaDoorProg
set_option linter.all false
namespace Go.AM
open Go Go.Proofs
theorem mixed : Tryd.prog.follows .mixedOrders = true := by kernel_rfl
def gtL : List (Nat × List D) := [(2, [.int .u64 1, .int .u64 10, .int .u64 100, .int .u64 1000, .int .u64 10000, .int .u64 100000, .int .u64 1000000, .int .u64 10000000, .int .u64 100000000, .int .u64 1000000000, .int .u64 10000000000, .int .u64 100000000000, .int .u64 1000000000000, .int .u64 10000000000000, .int .u64 100000000000000, .int .u64 1000000000000000, .int .u64 10000000000000000, .int .u64 100000000000000000, .int .u64 1000000000000000000, .int .u64 10000000000000000000]), (6, [.ifc false]), (5, [.ifc false]), (0, [.str [115, 99, 114, 101, 101, 110], .int .i64 2, .int .i64 2, .int .i64 0, .int .i64 0, .str [106, 111, 105, 110], .int .i64 2, .int .i64 2, .int .i64 1, .int .i64 0, .str [97, 115, 107], .int .i64 2, .int .i64 100, .int .i64 0, .int .i64 0, .str [115, 97, 121], .int .i64 2, .int .i64 100, .int .i64 2, .int .i64 2, .str [114, 111, 119], .int .i64 3, .int .i64 100, .int .i64 0, .int .i64 0, .str [98, 121, 116, 101, 115], .int .i64 1, .int .i64 1, .int .i64 2, .int .i64 1, .str [116, 117, 114, 110], .int .i64 2, .int .i64 2, .int .i64 0, .int .i64 0, .str [105, 110, 112, 117, 116], .int .i64 5, .int .i64 5, .int .i64 0, .int .i64 0, .str [104, 97, 110, 103], .int .i64 1, .int .i64 1, .int .i64 0, .int .i64 0, .str [115, 104, 111, 119], .int .i64 0, .int .i64 0, .int .i64 0, .int .i64 0, .str [114, 101, 97, 100], .int .i64 1, .int .i64 1, .int .i64 0, .int .i64 0, .str [116, 101, 120, 116], .int .i64 1, .int .i64 1, .int .i64 0, .int .i64 0, .str [119, 114, 105, 116, 101], .int .i64 1, .int .i64 1, .int .i64 3, .int .i64 1, .str [108, 111, 115, 101], .int .i64 2, .int .i64 2, .int .i64 0, .int .i64 0, .str [99, 97, 108, 109], .int .i64 0, .int .i64 0, .int .i64 0, .int .i64 0, .str [97, 117, 100, 105, 116], .int .i64 0, .int .i64 0, .int .i64 0, .int .i64 0])]
def gtab : Nat → Option (List D) := gtFind gtL
abbrev TSp := Sp Tryd.prog gtab
abbrev TSpM := SpM Tryd.prog gtab
abbrev TSpC := SpC Tryd.prog gtab
/-- glazier/glazierlaw63.ScriptParses -/
def c_law63_ScriptParses : C := .seq (.reg false [
  ⟨(some 2), none, .mv false (.c (.bool false)), none⟩] (some [0])) (
.seq (.seq (.reg false [
  ⟨(some 9), none, .call false 9 [], none⟩,
  ⟨(some 10), none, .not (.t 9), none⟩] (some [0, 10])) (
.ite (.t 10) (
  .seq (.reg false [
    ⟨(some 2), none, .mv false (.c (.bool false)), none⟩] (some [2])) (
  .ret)) (
  .skip))) (
.seq (.seq (.reg false [
  ⟨(some 11), none, .mv false (.t 0), none⟩,
  ⟨(some 12), none, .len true (.t 11), none⟩,
  ⟨(some 13), none, .bin .gtr .i64 (.t 12) (.c (.int .i64 8000)), none⟩,
  ⟨(some 14), none, .mv false (.t 13), none⟩,
  ⟨(some 15), some (14, true), .mv false (.t 0), none⟩,
  ⟨(some 16), some (14, true), .len true (.t 15), none⟩,
  ⟨(some 17), some (14, true), .bin .leq .i64 (.t 16) (.c (.int .i64 65536)), none⟩,
  ⟨(some 18), none, .pick (.t 14) (.t 17) (.c (.bool false)), none⟩,
  ⟨(some 19), none, .mv false (.t 18), none⟩,
  ⟨(some 20), some (19, false), .mv false (.t 0), none⟩,
  ⟨(some 21), some (19, false), .len true (.t 20), none⟩,
  ⟨(some 22), some (19, false), .bin .gtr .i64 (.t 21) (.c (.int .i64 70000)), none⟩,
  ⟨(some 23), none, .pick (.t 19) (.c (.bool true)) (.t 22), none⟩] (some [0, 23])) (
.ite (.t 23) (
  .seq (.reg false [
    ⟨(some 2), none, .mv false (.c (.bool true)), none⟩] (some [2])) (
  .ret)) (
  .skip))) (
.seq (.reg false [
  ⟨(some 25), none, .mv false (.t 0), none⟩,
  ⟨(some 26), none, .call false 10 [(.t 25)], none⟩,
  ⟨(some 24), none, .mv false (.t 26), none⟩,
  ⟨(some 27), none, .ext (.t 24) 0, none⟩,
  ⟨(some 28), none, .ext (.t 24) 1, none⟩,
  ⟨(some 29), none, .ext (.t 24) 2, none⟩,
  ⟨(some 3), none, .mv false (.t 27), none⟩,
  ⟨(some 4), none, .mv false (.t 28), none⟩,
  ⟨(some 5), none, .mv false (.t 29), none⟩] (some [0, 3, 4, 5])) (
.seq (.reg false [
  ⟨(some 31), none, .mv false (.t 0), none⟩,
  ⟨(some 32), none, .call false 11 [(.t 31)], none⟩,
  ⟨(some 30), none, .mv false (.t 32), none⟩,
  ⟨(some 33), none, .ext (.t 30) 0, none⟩,
  ⟨(some 34), none, .ext (.t 30) 1, none⟩,
  ⟨(some 35), none, .ext (.t 30) 2, none⟩,
  ⟨(some 6), none, .mv false (.t 33), none⟩,
  ⟨(some 7), none, .mv false (.t 34), none⟩,
  ⟨(some 8), none, .mv false (.t 35), none⟩] (some [3, 4, 5, 6, 7, 8])) (
.seq (.reg false [
  ⟨(some 36), none, .mv false (.t 3), none⟩,
  ⟨(some 37), none, .call false 13 [(.t 36)], none⟩,
  ⟨(some 38), none, .mv false (.t 6), none⟩,
  ⟨(some 39), none, .call false 12 [(.t 37), (.t 38), (.c (.bool true))], none⟩,
  ⟨(some 40), none, .mv false (.t 39), none⟩,
  ⟨(some 41), some (40, true), .mv false (.t 4), none⟩,
  ⟨(some 42), some (40, true), .mv false (.t 7), none⟩,
  ⟨(some 43), some (40, true), .bin .eql .i64 (.t 41) (.t 42), none⟩,
  ⟨(some 44), none, .pick (.t 40) (.t 43) (.c (.bool false)), none⟩,
  ⟨(some 45), none, .mv false (.t 44), none⟩,
  ⟨(some 46), some (45, true), .mv false (.t 5), none⟩,
  ⟨(some 47), some (45, true), .mv false (.t 8), none⟩,
  ⟨(some 48), some (45, true), .bin .eql .i64 (.t 46) (.t 47), none⟩,
  ⟨(some 49), none, .pick (.t 45) (.t 48) (.c (.bool false)), none⟩,
  ⟨(some 2), none, .mv false (.t 49), none⟩] (some [2])) (
.ret))))))
set_option maxRecDepth 1000000 in
theorem comp_law63_ScriptParses : (Tryd.f3.body.bind fun code => compC Tryd.prog Tryd.f3.ntmps code c_law63_ScriptParses) = some c_law63_ScriptParses.bare := by kernel_rfl
def r_law63_ScriptParses : List R := [.t 2]
theorem spo_law63_ScriptParses {ds : List D} {d : D} (hn : Nat.ble ds.length 50 = true) (h : run TSpC gtab 0 c_law63_ScriptParses (retK r_law63_ScriptParses (· = d)) ⟨env0 0 ds, []⟩) : TSp 3 ds d := Sp_of mixed c_law63_ScriptParses r_law63_ScriptParses (fn := Tryd.f3) (by kernel_rfl) (by kernel_rfl) comp_law63_ScriptParses (by kernel_rfl) hn h
theorem spm_law63_ScriptParses {ds : List D} {d : D} {bx bx' : List Ent} (hn : Nat.ble ds.length 50 = true) (h : run TSpC gtab (sizeE bx) c_law63_ScriptParses (retG r_law63_ScriptParses (fun d1 bx1 => Rt (sizeE bx) bx1 d1 d bx')) ⟨env0 0 ds, bx⟩) : TSpM 3 ds bx d bx' := SpM_of mixed c_law63_ScriptParses r_law63_ScriptParses (fn := Tryd.f3) (by kernel_rfl) (by kernel_rfl) comp_law63_ScriptParses (by kernel_rfl) hn h
/-- glazier/glazierlaw63.ScriptPrints -/
def c_law63_ScriptPrints : C := .seq (.reg false [
  ⟨(some 2), none, .mv false (.c (.bool false)), none⟩] (some [0])) (
.seq (.seq (.reg false [
  ⟨(some 7), none, .call false 9 [], none⟩,
  ⟨(some 8), none, .not (.t 7), none⟩] (some [0, 8])) (
.ite (.t 8) (
  .seq (.reg false [
    ⟨(some 2), none, .mv false (.c (.bool false)), none⟩] (some [2])) (
  .ret)) (
  .skip))) (
.seq (.seq (.reg false [
  ⟨(some 9), none, .mv false (.t 0), none⟩,
  ⟨(some 10), none, .call false 13 [(.t 9)], none⟩,
  ⟨(some 11), none, .call false 14 [(.t 10)], none⟩,
  ⟨(some 12), none, .not (.t 11), none⟩] (some [0, 12])) (
.ite (.t 12) (
  .seq (.reg false [
    ⟨(some 2), none, .mv false (.c (.bool true)), none⟩] (some [2])) (
  .ret)) (
  .skip))) (
.seq (.reg false [
  ⟨(some 14), none, .mv false (.t 0), none⟩,
  ⟨(some 15), none, .call false 15 [(.t 14)], none⟩,
  ⟨(some 13), none, .mv false (.t 15), none⟩,
  ⟨(some 16), none, .ext (.t 13) 0, none⟩,
  ⟨(some 17), none, .ext (.t 13) 1, none⟩,
  ⟨(some 3), none, .mv false (.t 16), none⟩,
  ⟨(some 4), none, .mv false (.t 17), none⟩] (some [0, 3, 4])) (
.seq (.reg false [
  ⟨(some 19), none, .mv false (.t 0), none⟩,
  ⟨(some 20), none, .call false 13 [(.t 19)], none⟩,
  ⟨(some 21), none, .call false 16 [(.t 20)], none⟩,
  ⟨(some 18), none, .mv false (.t 21), none⟩,
  ⟨(some 22), none, .ext (.t 18) 0, none⟩,
  ⟨(some 23), none, .ext (.t 18) 1, none⟩,
  ⟨(some 5), none, .mv false (.t 22), none⟩,
  ⟨(some 6), none, .mv false (.t 23), none⟩] (some [3, 4, 5, 6])) (
.seq (.reg false [
  ⟨(some 24), none, .mv false (.t 3), none⟩,
  ⟨(some 25), none, .mv false (.t 5), none⟩,
  ⟨(some 26), none, .eqb false true (.t 24) (.t 25), none⟩,
  ⟨(some 27), none, .mv false (.t 26), none⟩,
  ⟨(some 28), some (27, true), .mv false (.t 4), none⟩,
  ⟨(some 29), some (27, true), .mv false (.t 6), none⟩,
  ⟨(some 30), some (27, true), .bin .eql .i64 (.t 28) (.t 29), none⟩,
  ⟨(some 31), none, .pick (.t 27) (.t 30) (.c (.bool false)), none⟩,
  ⟨(some 2), none, .mv false (.t 31), none⟩] (some [2])) (
.ret))))))
set_option maxRecDepth 1000000 in
theorem comp_law63_ScriptPrints : (Tryd.f4.body.bind fun code => compC Tryd.prog Tryd.f4.ntmps code c_law63_ScriptPrints) = some c_law63_ScriptPrints.bare := by kernel_rfl
def r_law63_ScriptPrints : List R := [.t 2]
theorem spo_law63_ScriptPrints {ds : List D} {d : D} (hn : Nat.ble ds.length 32 = true) (h : run TSpC gtab 0 c_law63_ScriptPrints (retK r_law63_ScriptPrints (· = d)) ⟨env0 0 ds, []⟩) : TSp 4 ds d := Sp_of mixed c_law63_ScriptPrints r_law63_ScriptPrints (fn := Tryd.f4) (by kernel_rfl) (by kernel_rfl) comp_law63_ScriptPrints (by kernel_rfl) hn h
theorem spm_law63_ScriptPrints {ds : List D} {d : D} {bx bx' : List Ent} (hn : Nat.ble ds.length 32 = true) (h : run TSpC gtab (sizeE bx) c_law63_ScriptPrints (retG r_law63_ScriptPrints (fun d1 bx1 => Rt (sizeE bx) bx1 d1 d bx')) ⟨env0 0 ds, bx⟩) : TSpM 4 ds bx d bx' := SpM_of mixed c_law63_ScriptPrints r_law63_ScriptPrints (fn := Tryd.f4) (by kernel_rfl) (by kernel_rfl) comp_law63_ScriptPrints (by kernel_rfl) hn h
/-- glazier/glazierlaw63.ScriptBack -/
def c_law63_ScriptBack : C := .seq (.reg false [
  ⟨(some 4), none, .mv false (.c (.bool false)), none⟩] (some [0, 1])) (
.seq (.seq (.reg false [
  ⟨(some 19), none, .call false 9 [], none⟩,
  ⟨(some 20), none, .not (.t 19), none⟩] (some [0, 1, 20])) (
.ite (.t 20) (
  .seq (.reg false [
    ⟨(some 4), none, .mv false (.c (.bool false)), none⟩] (some [4])) (
  .ret)) (
  .skip))) (
.seq (.seq (.reg false [
  ⟨(some 21), none, .mv false (.t 0), none⟩,
  ⟨(some 22), none, .call false 13 [(.t 21)], none⟩,
  ⟨(some 23), none, .call false 14 [(.t 22)], none⟩,
  ⟨(some 24), none, .not (.t 23), none⟩,
  ⟨(some 25), none, .mv false (.t 24), none⟩,
  ⟨(some 26), some (25, false), .mv false (.t 1), none⟩,
  ⟨(some 27), some (25, false), .len true (.t 26), none⟩,
  ⟨(some 28), some (25, false), .bin .gtr .i64 (.t 27) (.c (.int .i64 8000)), none⟩,
  ⟨(some 29), none, .pick (.t 25) (.c (.bool true)) (.t 28), none⟩] (some [0, 1, 29])) (
.ite (.t 29) (
  .seq (.reg false [
    ⟨(some 4), none, .mv false (.c (.bool true)), none⟩] (some [4])) (
  .ret)) (
  .skip))) (
.seq (.reg false [
  ⟨(some 31), none, .mv false (.t 0), none⟩,
  ⟨(some 32), none, .call false 15 [(.t 31)], none⟩,
  ⟨(some 30), none, .mv false (.t 32), none⟩,
  ⟨(some 33), none, .ext (.t 30) 0, none⟩,
  ⟨(some 34), none, .ext (.t 30) 1, none⟩,
  ⟨(some 5), none, .mv false (.t 33), none⟩,
  ⟨(some 6), none, .mv false (.t 34), none⟩] (some [0, 1, 5, 6])) (
.seq (.seq (.reg false [
  ⟨(some 35), none, .mv false (.t 6), none⟩,
  ⟨(some 36), none, .bin .eql .i64 (.t 35) (.c (.int .i64 0)), none⟩] (some [0, 1, 5, 36])) (
.ite (.t 36) (
  .seq (.reg false [
    ⟨(some 38), none, .mv false (.t 5), none⟩,
    ⟨(some 39), none, .call false 10 [(.t 38)], none⟩,
    ⟨(some 37), none, .mv false (.t 39), none⟩,
    ⟨(some 40), none, .ext (.t 37) 0, none⟩,
    ⟨(some 41), none, .ext (.t 37) 1, none⟩,
    ⟨(some 42), none, .ext (.t 37) 2, none⟩,
    ⟨(some 7), none, .mv false (.t 40), none⟩,
    ⟨(some 8), none, .mv false (.t 41), none⟩,
    ⟨(some 9), none, .mv false (.t 42), none⟩] (some [0, 1, 7, 8, 9])) (
  .seq (.seq (.reg false [
    ⟨(some 43), none, .mv false (.t 9), none⟩,
    ⟨(some 44), none, .bin .neq .i64 (.t 43) (.c (.int .i64 0)), none⟩,
    ⟨(some 45), none, .mv false (.t 44), none⟩,
    ⟨(some 46), some (45, false), .mv false (.t 8), none⟩,
    ⟨(some 47), some (45, false), .bin .neq .i64 (.t 46) (.c (.int .i64 0)), none⟩,
    ⟨(some 48), none, .pick (.t 45) (.c (.bool true)) (.t 47), none⟩,
    ⟨(some 49), none, .mv false (.t 48), none⟩,
    ⟨(some 50), some (49, false), .mv false (.t 7), none⟩,
    ⟨(some 51), some (49, false), .call false 13 [(.t 50)], none⟩,
    ⟨(some 52), some (49, false), .mv false (.t 0), none⟩,
    ⟨(some 53), some (49, false), .call false 13 [(.t 52)], none⟩,
    ⟨(some 54), some (49, false), .call false 12 [(.t 51), (.t 53), (.c (.bool false))], none⟩,
    ⟨(some 55), some (49, false), .not (.t 54), none⟩,
    ⟨(some 56), none, .pick (.t 49) (.c (.bool true)) (.t 55), none⟩] (some [1, 7, 56])) (
  .ite (.t 56) (
    .seq (.reg false [
      ⟨(some 4), none, .mv false (.c (.bool false)), none⟩] (some [4])) (
    .ret)) (
    .skip))) (
  .seq (.reg false [
    ⟨(some 10), none, .mv false (.c (.int .i64 0)), none⟩] (some [1, 7, 10])) (
  .blk 0 (
    .loop (
      .seq (.seq (.reg false [
        ⟨(some 57), none, .mv false (.t 10), none⟩,
        ⟨(some 58), none, .mv false (.t 7), none⟩,
        ⟨(some 59), none, .len false (.t 58), none⟩,
        ⟨(some 60), none, .bin .lss .i64 (.t 57) (.t 59), none⟩] (some [1, 7, 10, 60])) (
      .ite (.t 60) (
        .skip) (
        .exit 0))) (
      .seq (.blk 1 (
        .seq (.reg false [
          ⟨(some 63), none, .mv false (.t 7), none⟩,
          ⟨(some 64), none, .mv false (.t 10), none⟩,
          ⟨(some 65), none, .ixs 4 (.t 63) (.t 64), none⟩,
          ⟨(some 66), none, .fld 0 (.t 65), none⟩,
          ⟨(some 67), none, .ld none (.t 66), none⟩,
          ⟨(some 68), none, .mv false (.t 10), none⟩,
          ⟨(some 69), none, .bin .add .i64 (.t 68) (.c (.int .i64 1)), none⟩,
          ⟨(some 70), none, .bin .neq .i64 (.t 67) (.t 69), none⟩] (some [1, 7, 10, 70])) (
        .ite (.t 70) (
          .seq (.reg false [
            ⟨(some 4), none, .mv false (.c (.bool false)), none⟩] (some [4])) (
          .ret)) (
          .skip)))) (
      .reg false [
        ⟨(some 61), none, .mv false (.t 10), none⟩,
        ⟨(some 62), none, .bin .add .i64 (.t 61) (.c (.int .i64 1)), none⟩,
        ⟨(some 10), none, .mv false (.t 62), none⟩] (some [1, 7, 10]))))))))) (
  .seq (.reg false [
    ⟨(some 71), none, .mv false (.t 5), none⟩,
    ⟨(some 72), none, .eqb true true (.t 71) (.c (.str [])), none⟩] (some [1, 72])) (
  .ite (.t 72) (
    .seq (.reg false [
      ⟨(some 4), none, .mv false (.c (.bool false)), none⟩] (some [4])) (
    .ret)) (
    .skip))))) (
.seq (.reg false [
  ⟨(some 74), none, .mv false (.t 1), none⟩,
  ⟨(some 75), none, .call false 10 [(.t 74)], none⟩,
  ⟨(some 73), none, .mv false (.t 75), none⟩,
  ⟨(some 76), none, .ext (.t 73) 0, none⟩,
  ⟨(some 77), none, .ext (.t 73) 1, none⟩,
  ⟨(some 78), none, .ext (.t 73) 2, none⟩,
  ⟨(some 11), none, .mv false (.t 76), none⟩,
  ⟨(some 12), none, .mv false (.t 77), none⟩,
  ⟨(some 13), none, .mv false (.t 78), none⟩] (some [11, 13])) (
.seq (.seq (.reg false [
  ⟨(some 79), none, .mv false (.t 13), none⟩,
  ⟨(some 80), none, .bin .neq .i64 (.t 79) (.c (.int .i64 0)), none⟩] (some [11, 80])) (
.ite (.t 80) (
  .seq (.reg false [
    ⟨(some 81), none, .mv false (.t 11), none⟩,
    ⟨(some 82), none, .len false (.t 81), none⟩,
    ⟨(some 83), none, .bin .eql .i64 (.t 82) (.c (.int .i64 0)), none⟩,
    ⟨(some 4), none, .mv false (.t 83), none⟩] (some [4])) (
  .ret)) (
  .skip))) (
.seq (.reg false [
  ⟨(some 85), none, .mv false (.t 11), none⟩,
  ⟨(some 86), none, .call false 15 [(.t 85)], none⟩,
  ⟨(some 84), none, .mv false (.t 86), none⟩,
  ⟨(some 87), none, .ext (.t 84) 0, none⟩,
  ⟨(some 88), none, .ext (.t 84) 1, none⟩,
  ⟨(some 14), none, .mv false (.t 87), none⟩,
  ⟨(some 15), none, .mv false (.t 88), none⟩] (some [11, 14, 15])) (
.seq (.reg false [
  ⟨(some 90), none, .mv false (.t 14), none⟩,
  ⟨(some 91), none, .call false 10 [(.t 90)], none⟩,
  ⟨(some 89), none, .mv false (.t 91), none⟩,
  ⟨(some 92), none, .ext (.t 89) 0, none⟩,
  ⟨(some 93), none, .ext (.t 89) 1, none⟩,
  ⟨(some 94), none, .ext (.t 89) 2, none⟩,
  ⟨(some 16), none, .mv false (.t 92), none⟩,
  ⟨(some 17), none, .mv false (.t 93), none⟩,
  ⟨(some 18), none, .mv false (.t 94), none⟩] (some [11, 15, 16, 18])) (
.seq (.reg false [
  ⟨(some 95), none, .mv false (.t 15), none⟩,
  ⟨(some 96), none, .bin .eql .i64 (.t 95) (.c (.int .i64 0)), none⟩,
  ⟨(some 97), none, .mv false (.t 96), none⟩,
  ⟨(some 98), some (97, true), .mv false (.t 18), none⟩,
  ⟨(some 99), some (97, true), .bin .eql .i64 (.t 98) (.c (.int .i64 0)), none⟩,
  ⟨(some 100), none, .pick (.t 97) (.t 99) (.c (.bool false)), none⟩,
  ⟨(some 101), none, .mv false (.t 100), none⟩,
  ⟨(some 102), some (101, true), .mv false (.t 11), none⟩,
  ⟨(some 103), some (101, true), .call false 13 [(.t 102)], none⟩,
  ⟨(some 104), some (101, true), .mv false (.t 16), none⟩,
  ⟨(some 105), some (101, true), .call false 13 [(.t 104)], none⟩,
  ⟨(some 106), some (101, true), .call false 12 [(.t 103), (.t 105), (.c (.bool false))], none⟩,
  ⟨(some 107), none, .pick (.t 101) (.t 106) (.c (.bool false)), none⟩,
  ⟨(some 4), none, .mv false (.t 107), none⟩] (some [4])) (
.ret))))))))))
set_option maxRecDepth 1000000 in
theorem comp_law63_ScriptBack : (Tryd.f5.body.bind fun code => compC Tryd.prog Tryd.f5.ntmps code c_law63_ScriptBack) = some c_law63_ScriptBack.bare := by kernel_rfl
def r_law63_ScriptBack : List R := [.t 4]
theorem spo_law63_ScriptBack {ds : List D} {d : D} (hn : Nat.ble ds.length 108 = true) (h : run TSpC gtab 0 c_law63_ScriptBack (retK r_law63_ScriptBack (· = d)) ⟨env0 0 ds, []⟩) : TSp 5 ds d := Sp_of mixed c_law63_ScriptBack r_law63_ScriptBack (fn := Tryd.f5) (by kernel_rfl) (by kernel_rfl) comp_law63_ScriptBack (by kernel_rfl) hn h
theorem spm_law63_ScriptBack {ds : List D} {d : D} {bx bx' : List Ent} (hn : Nat.ble ds.length 108 = true) (h : run TSpC gtab (sizeE bx) c_law63_ScriptBack (retG r_law63_ScriptBack (fun d1 bx1 => Rt (sizeE bx) bx1 d1 d bx')) ⟨env0 0 ds, bx⟩) : TSpM 5 ds bx d bx' := SpM_of mixed c_law63_ScriptBack r_law63_ScriptBack (fn := Tryd.f5) (by kernel_rfl) (by kernel_rfl) comp_law63_ScriptBack (by kernel_rfl) hn h
/-- glazier/glazierlaw63.ScriptComments -/
def c_law63_ScriptComments : C := .seq (.reg false [
  ⟨(some 8), none, .mv false (.c (.bool false)), none⟩] (some [0, 1, 2, 3])) (
.seq (.seq (.reg false [
  ⟨(some 21), none, .call false 9 [], none⟩,
  ⟨(some 22), none, .not (.t 21), none⟩] (some [0, 1, 2, 3, 22])) (
.ite (.t 22) (
  .seq (.reg false [
    ⟨(some 8), none, .mv false (.c (.bool false)), none⟩] (some [8])) (
  .ret)) (
  .skip))) (
.seq (.seq (.reg false [
  ⟨(some 23), none, .mv false (.t 0), none⟩,
  ⟨(some 24), none, .len true (.t 23), none⟩,
  ⟨(some 25), none, .bin .gtr .i64 (.t 24) (.c (.int .i64 8000)), none⟩,
  ⟨(some 26), none, .mv false (.t 25), none⟩,
  ⟨(some 27), some (26, false), .mv false (.t 1), none⟩,
  ⟨(some 28), some (26, false), .len true (.t 27), none⟩,
  ⟨(some 29), some (26, false), .bin .gtr .i64 (.t 28) (.c (.int .i64 100)), none⟩,
  ⟨(some 30), none, .pick (.t 26) (.c (.bool true)) (.t 29), none⟩] (some [0, 1, 2, 3, 30])) (
.ite (.t 30) (
  .seq (.reg false [
    ⟨(some 8), none, .mv false (.c (.bool true)), none⟩] (some [8])) (
  .ret)) (
  .skip))) (
.seq (.seq (.reg false [
  ⟨(some 9), none, .mv false (.c (.int .i64 0)), none⟩] (some [0, 1, 2, 3, 9])) (
.blk 0 (
  .loop (
    .seq (.seq (.reg false [
      ⟨(some 31), none, .mv false (.t 9), none⟩,
      ⟨(some 32), none, .mv false (.t 1), none⟩,
      ⟨(some 33), none, .len true (.t 32), none⟩,
      ⟨(some 34), none, .bin .lss .i64 (.t 31) (.t 33), none⟩] (some [0, 1, 2, 3, 9, 34])) (
    .ite (.t 34) (
      .skip) (
      .exit 0))) (
    .seq (.blk 1 (
      .seq (.reg false [
        ⟨(some 37), none, .mv false (.t 1), none⟩,
        ⟨(some 38), none, .mv false (.t 9), none⟩,
        ⟨(some 39), none, .sidx (.t 37) (.t 38), none⟩,
        ⟨(some 40), none, .bin .eql .u8 (.t 39) (.c (.int .u8 10)), none⟩] (some [0, 1, 2, 3, 9, 40])) (
      .ite (.t 40) (
        .seq (.reg false [
          ⟨(some 8), none, .mv false (.c (.bool true)), none⟩] (some [8])) (
        .ret)) (
        .skip)))) (
    .reg false [
      ⟨(some 35), none, .mv false (.t 9), none⟩,
      ⟨(some 36), none, .bin .add .i64 (.t 35) (.c (.int .i64 1)), none⟩,
      ⟨(some 9), none, .mv false (.t 36), none⟩] (some [0, 1, 2, 3, 9]))))))) (
.seq (.reg false [
  ⟨(some 10), none, .mv false (.c (.str [])), none⟩] (some [0, 1, 2, 3, 10])) (
.seq (.reg false [
  ⟨(some 11), none, .mv false (.c (.int .i64 0)), none⟩] (some [0, 1, 2, 3, 10, 11])) (
.seq (.seq (.reg false [
  ⟨(some 12), none, .mv false (.c (.int .i64 0)), none⟩] (some [0, 1, 2, 3, 10, 11, 12])) (
.blk 2 (
  .loop (
    .seq (.seq (.reg false [
      ⟨(some 41), none, .mv false (.t 12), none⟩,
      ⟨(some 42), none, .mv false (.t 2), none⟩,
      ⟨(some 43), none, .conv .i64 (.t 42), none⟩,
      ⟨(some 44), none, .bin .rem .i64 (.t 43) (.c (.int .i64 5)), none⟩,
      ⟨(some 45), none, .bin .lss .i64 (.t 41) (.t 44), none⟩] (some [0, 1, 2, 3, 10, 11, 12, 45])) (
    .ite (.t 45) (
      .skip) (
      .exit 2))) (
    .seq (.blk 3 (
      .seq (.reg false [
        ⟨(some 48), none, .mv false (.t 10), none⟩,
        ⟨(some 49), none, .cat (.t 48) (.c (.str [10, 35])), none⟩,
        ⟨(some 50), none, .mv false (.t 1), none⟩,
        ⟨(some 51), none, .cat (.t 49) (.t 50), none⟩,
        ⟨(some 52), none, .cat (.t 51) (.c (.str [10])), none⟩,
        ⟨(some 10), none, .mv false (.t 52), none⟩] (some [0, 1, 2, 3, 10, 11, 12])) (
      .reg false [
        ⟨(some 53), none, .mv false (.t 11), none⟩,
        ⟨(some 54), none, .bin .add .i64 (.t 53) (.c (.int .i64 2)), none⟩,
        ⟨(some 11), none, .mv false (.t 54), none⟩] (some [0, 1, 2, 3, 10, 11, 12])))) (
    .reg false [
      ⟨(some 46), none, .mv false (.t 12), none⟩,
      ⟨(some 47), none, .bin .add .i64 (.t 46) (.c (.int .i64 1)), none⟩,
      ⟨(some 12), none, .mv false (.t 47), none⟩] (some [0, 1, 2, 3, 10, 11, 12]))))))) (
.seq (.reg false [
  ⟨(some 55), none, .mv false (.t 10), none⟩,
  ⟨(some 56), none, .mv false (.t 0), none⟩,
  ⟨(some 57), none, .cat (.t 55) (.t 56), none⟩,
  ⟨(some 58), none, .cat (.t 57) (.c (.str [10])), none⟩,
  ⟨(some 10), none, .mv false (.t 58), none⟩] (some [0, 1, 3, 10, 11])) (
.seq (.seq (.reg false [
  ⟨(some 13), none, .mv false (.c (.int .i64 0)), none⟩] (some [0, 1, 3, 10, 11, 13])) (
.blk 4 (
  .loop (
    .seq (.seq (.reg false [
      ⟨(some 59), none, .mv false (.t 13), none⟩,
      ⟨(some 60), none, .mv false (.t 3), none⟩,
      ⟨(some 61), none, .conv .i64 (.t 60), none⟩,
      ⟨(some 62), none, .bin .rem .i64 (.t 61) (.c (.int .i64 5)), none⟩,
      ⟨(some 63), none, .bin .lss .i64 (.t 59) (.t 62), none⟩] (some [0, 1, 3, 10, 11, 13, 63])) (
    .ite (.t 63) (
      .skip) (
      .exit 4))) (
    .seq (.blk 5 (
      .reg false [
        ⟨(some 66), none, .mv false (.t 10), none⟩,
        ⟨(some 67), none, .cat (.t 66) (.c (.str [35, 32])), none⟩,
        ⟨(some 68), none, .mv false (.t 1), none⟩,
        ⟨(some 69), none, .cat (.t 67) (.t 68), none⟩,
        ⟨(some 70), none, .cat (.t 69) (.c (.str [10])), none⟩,
        ⟨(some 10), none, .mv false (.t 70), none⟩] (some [0, 1, 3, 10, 11, 13]))) (
    .reg false [
      ⟨(some 64), none, .mv false (.t 13), none⟩,
      ⟨(some 65), none, .bin .add .i64 (.t 64) (.c (.int .i64 1)), none⟩,
      ⟨(some 13), none, .mv false (.t 65), none⟩] (some [0, 1, 3, 10, 11, 13]))))))) (
.seq (.reg false [
  ⟨(some 72), none, .mv false (.t 0), none⟩,
  ⟨(some 73), none, .call false 10 [(.t 72)], none⟩,
  ⟨(some 71), none, .mv false (.t 73), none⟩,
  ⟨(some 74), none, .ext (.t 71) 0, none⟩,
  ⟨(some 75), none, .ext (.t 71) 1, none⟩,
  ⟨(some 76), none, .ext (.t 71) 2, none⟩,
  ⟨(some 14), none, .mv false (.t 74), none⟩,
  ⟨(some 15), none, .mv false (.t 75), none⟩,
  ⟨(some 16), none, .mv false (.t 76), none⟩] (some [10, 11, 14, 15, 16])) (
.seq (.reg false [
  ⟨(some 78), none, .mv false (.t 10), none⟩,
  ⟨(some 79), none, .call false 10 [(.t 78)], none⟩,
  ⟨(some 77), none, .mv false (.t 79), none⟩,
  ⟨(some 80), none, .ext (.t 77) 0, none⟩,
  ⟨(some 81), none, .ext (.t 77) 1, none⟩,
  ⟨(some 82), none, .ext (.t 77) 2, none⟩,
  ⟨(some 17), none, .mv false (.t 80), none⟩,
  ⟨(some 18), none, .mv false (.t 81), none⟩,
  ⟨(some 19), none, .mv false (.t 82), none⟩] (some [11, 14, 15, 16, 17, 18, 19])) (
.seq (.seq (.reg false [
  ⟨(some 83), none, .mv false (.t 16), none⟩,
  ⟨(some 84), none, .mv false (.t 19), none⟩,
  ⟨(some 85), none, .bin .neq .i64 (.t 83) (.t 84), none⟩,
  ⟨(some 86), none, .mv false (.t 85), none⟩,
  ⟨(some 87), some (86, false), .mv false (.t 14), none⟩,
  ⟨(some 88), some (86, false), .len false (.t 87), none⟩,
  ⟨(some 89), some (86, false), .mv false (.t 17), none⟩,
  ⟨(some 90), some (86, false), .len false (.t 89), none⟩,
  ⟨(some 91), some (86, false), .bin .neq .i64 (.t 88) (.t 90), none⟩,
  ⟨(some 92), none, .pick (.t 86) (.c (.bool true)) (.t 91), none⟩,
  ⟨(some 93), none, .mv false (.t 92), none⟩,
  ⟨(some 94), some (93, false), .mv false (.t 15), none⟩,
  ⟨(some 95), some (93, false), .bin .neq .i64 (.t 94) (.c (.int .i64 0)), none⟩,
  ⟨(some 96), some (93, false), .mv false (.t 95), none⟩,
  ⟨(some 97), some (96, true), .mv false (.t 18), none⟩,
  ⟨(some 98), some (96, true), .mv false (.t 15), none⟩,
  ⟨(some 99), some (96, true), .mv false (.t 11), none⟩,
  ⟨(some 100), some (96, true), .bin .add .i64 (.t 98) (.t 99), none⟩,
  ⟨(some 101), some (96, true), .bin .neq .i64 (.t 97) (.t 100), none⟩,
  ⟨(some 102), some (93, false), .pick (.t 96) (.t 101) (.c (.bool false)), none⟩,
  ⟨(some 103), none, .pick (.t 93) (.c (.bool true)) (.t 102), none⟩,
  ⟨(some 104), none, .mv false (.t 103), none⟩,
  ⟨(some 105), some (104, false), .mv false (.t 15), none⟩,
  ⟨(some 106), some (104, false), .bin .eql .i64 (.t 105) (.c (.int .i64 0)), none⟩,
  ⟨(some 107), some (104, false), .mv false (.t 106), none⟩,
  ⟨(some 108), some (107, true), .mv false (.t 18), none⟩,
  ⟨(some 109), some (107, true), .bin .neq .i64 (.t 108) (.c (.int .i64 0)), none⟩,
  ⟨(some 110), some (104, false), .pick (.t 107) (.t 109) (.c (.bool false)), none⟩,
  ⟨(some 111), none, .pick (.t 104) (.c (.bool true)) (.t 110), none⟩] (some [11, 14, 17, 111])) (
.ite (.t 111) (
  .seq (.reg false [
    ⟨(some 8), none, .mv false (.c (.bool false)), none⟩] (some [8])) (
  .ret)) (
  .skip))) (
.seq (.seq (.reg false [
  ⟨(some 20), none, .mv false (.c (.int .i64 0)), none⟩] (some [11, 14, 17, 20])) (
.blk 6 (
  .loop (
    .seq (.seq (.reg false [
      ⟨(some 112), none, .mv false (.t 20), none⟩,
      ⟨(some 113), none, .mv false (.t 14), none⟩,
      ⟨(some 114), none, .len false (.t 113), none⟩,
      ⟨(some 115), none, .bin .lss .i64 (.t 112) (.t 114), none⟩] (some [11, 14, 17, 20, 115])) (
    .ite (.t 115) (
      .skip) (
      .exit 6))) (
    .seq (.blk 7 (
      .seq (.reg true [
        ⟨(some 118), none, .mv false (.t 17), none⟩,
        ⟨(some 119), none, .mv false (.t 20), none⟩,
        ⟨(some 120), none, .ixs 4 (.t 118) (.t 119), none⟩,
        ⟨(some 121), none, .fld 0 (.t 120), none⟩,
        ⟨(some 122), none, .ld none (.t 121), none⟩,
        ⟨(some 123), none, .mv false (.t 14), none⟩,
        ⟨(some 124), none, .mv false (.t 20), none⟩,
        ⟨(some 125), none, .ixs 4 (.t 123) (.t 124), none⟩,
        ⟨(some 126), none, .fld 0 (.t 125), none⟩,
        ⟨(some 127), none, .ld none (.t 126), none⟩,
        ⟨(some 128), none, .mv false (.t 11), none⟩,
        ⟨(some 129), none, .bin .add .i64 (.t 127) (.t 128), none⟩,
        ⟨(some 130), none, .bin .neq .i64 (.t 122) (.t 129), none⟩] (some [11, 14, 17, 20, 130])) (
      .ite (.t 130) (
        .seq (.reg false [
          ⟨(some 8), none, .mv false (.c (.bool false)), none⟩] (some [8])) (
        .ret)) (
        .skip)))) (
    .reg false [
      ⟨(some 116), none, .mv false (.t 20), none⟩,
      ⟨(some 117), none, .bin .add .i64 (.t 116) (.c (.int .i64 1)), none⟩,
      ⟨(some 20), none, .mv false (.t 117), none⟩] (some [11, 14, 17, 20]))))))) (
.seq (.reg false [
  ⟨(some 131), none, .mv false (.t 14), none⟩,
  ⟨(some 132), none, .call false 13 [(.t 131)], none⟩,
  ⟨(some 133), none, .mv false (.t 17), none⟩,
  ⟨(some 134), none, .call false 13 [(.t 133)], none⟩,
  ⟨(some 135), none, .call false 12 [(.t 132), (.t 134), (.c (.bool false))], none⟩,
  ⟨(some 8), none, .mv false (.t 135), none⟩] (some [8])) (
.ret))))))))))))))
set_option maxRecDepth 1000000 in
theorem comp_law63_ScriptComments : (Tryd.f6.body.bind fun code => compC Tryd.prog Tryd.f6.ntmps code c_law63_ScriptComments) = some c_law63_ScriptComments.bare := by kernel_rfl
def r_law63_ScriptComments : List R := [.t 8]
theorem spo_law63_ScriptComments {ds : List D} {d : D} (hn : Nat.ble ds.length 136 = true) (h : run TSpC gtab 0 c_law63_ScriptComments (retK r_law63_ScriptComments (· = d)) ⟨env0 0 ds, []⟩) : TSp 6 ds d := Sp_of mixed c_law63_ScriptComments r_law63_ScriptComments (fn := Tryd.f6) (by kernel_rfl) (by kernel_rfl) comp_law63_ScriptComments (by kernel_rfl) hn h
theorem spm_law63_ScriptComments {ds : List D} {d : D} {bx bx' : List Ent} (hn : Nat.ble ds.length 136 = true) (h : run TSpC gtab (sizeE bx) c_law63_ScriptComments (retG r_law63_ScriptComments (fun d1 bx1 => Rt (sizeE bx) bx1 d1 d bx')) ⟨env0 0 ds, bx⟩) : TSpM 6 ds bx d bx' := SpM_of mixed c_law63_ScriptComments r_law63_ScriptComments (fn := Tryd.f6) (by kernel_rfl) (by kernel_rfl) comp_law63_ScriptComments (by kernel_rfl) hn h
/-- glazier/glazierlaw63.ScriptNames -/
def c_law63_ScriptNames : C := .seq (.reg false [
  ⟨(some 4), none, .mv false (.c (.bool false)), none⟩] (some [0, 1])) (
.seq (.seq (.reg false [
  ⟨(some 9), none, .call false 9 [], none⟩,
  ⟨(some 10), none, .not (.t 9), none⟩] (some [0, 1, 10])) (
.ite (.t 10) (
  .seq (.reg false [
    ⟨(some 4), none, .mv false (.c (.bool false)), none⟩] (some [4])) (
  .ret)) (
  .skip))) (
.seq (.seq (.reg false [
  ⟨(some 11), none, .mv false (.t 1), none⟩,
  ⟨(some 12), none, .len true (.t 11), none⟩,
  ⟨(some 13), none, .bin .gtr .i64 (.t 12) (.c (.int .i64 300)), none⟩] (some [0, 1, 13])) (
.ite (.t 13) (
  .seq (.reg false [
    ⟨(some 4), none, .mv false (.c (.bool true)), none⟩] (some [4])) (
  .ret)) (
  .skip))) (
.seq (.reg false [
  ⟨(some 14), none, .mv false (.t 0), none⟩,
  ⟨(some 15), none, .bin .geq .i64 (.t 14) (.c (.int .i64 0)), none⟩,
  ⟨(some 16), none, .mv false (.t 15), none⟩,
  ⟨(some 17), some (16, true), .mv false (.t 0), none⟩,
  ⟨(some 18), some (16, true), .bin .leq .i64 (.t 17) (.c (.int .i64 15)), none⟩,
  ⟨(some 19), none, .pick (.t 16) (.t 18) (.c (.bool false)), none⟩,
  ⟨(some 5), none, .mv false (.t 19), none⟩] (some [0, 1, 5])) (
.seq (.reg false [
  ⟨(some 20), none, .mv false (.t 0), none⟩,
  ⟨(some 21), none, .call false 17 [(.t 20)], none⟩,
  ⟨(some 6), none, .mv false (.t 21), none⟩] (some [0, 1, 5, 6])) (
.seq (.seq (.reg false [
  ⟨(some 22), none, .mv false (.t 5), none⟩,
  ⟨(some 23), none, .mv false (.t 22), none⟩,
  ⟨(some 24), some (23, true), .mv false (.t 6), none⟩,
  ⟨(some 25), some (23, true), .call false 18 [], none⟩,
  ⟨(some 26), some (23, true), .mv false (.t 0), none⟩,
  ⟨(some 27), some (23, true), .ixs 1 (.t 25) (.t 26), none⟩,
  ⟨(some 28), some (23, true), .ld none (.t 27), none⟩,
  ⟨(some 29), some (23, true), .eqb true true (.t 24) (.t 28), none⟩,
  ⟨(some 30), none, .pick (.t 23) (.t 29) (.c (.bool false)), none⟩,
  ⟨(some 31), none, .mv false (.t 30), none⟩,
  ⟨(some 32), some (31, false), .mv false (.t 5), none⟩,
  ⟨(some 33), some (31, false), .not (.t 32), none⟩,
  ⟨(some 34), some (31, false), .mv false (.t 33), none⟩,
  ⟨(some 35), some (34, true), .mv false (.t 6), none⟩,
  ⟨(some 36), some (34, true), .eqb true true (.t 35) (.c (.str [])), none⟩,
  ⟨(some 37), some (31, false), .pick (.t 34) (.t 36) (.c (.bool false)), none⟩,
  ⟨(some 38), none, .pick (.t 31) (.c (.bool true)) (.t 37), none⟩] (some [1, 5, 6, 38])) (
.ite (.t 38) (
  .seq (.reg false [
    ⟨(some 4), none, .mv false (.c (.bool false)), none⟩] (some [4])) (
  .ret)) (
  .skip))) (
.seq (.reg false [
  ⟨(some 7), none, .mv false (.c (.int .i64 0)), none⟩] (some [1, 5, 6, 7])) (
.seq (.seq (.reg false [
  ⟨(some 8), none, .mv false (.c (.int .i64 0)), none⟩] (some [1, 5, 6, 7, 8])) (
.blk 0 (
  .loop (
    .seq (.seq (.reg false [
      ⟨(some 39), none, .mv false (.t 8), none⟩,
      ⟨(some 40), none, .bin .lss .i64 (.t 39) (.c (.int .i64 16)), none⟩] (some [1, 5, 6, 7, 8, 40])) (
    .ite (.t 40) (
      .skip) (
      .exit 0))) (
    .seq (.blk 1 (
      .seq (.reg false [
        ⟨(some 43), none, .mv false (.t 8), none⟩,
        ⟨(some 44), none, .call false 17 [(.t 43)], none⟩,
        ⟨(some 45), none, .mv false (.t 1), none⟩,
        ⟨(some 46), none, .eqb false true (.t 44) (.t 45), none⟩] (some [1, 5, 6, 7, 8, 46])) (
      .ite (.t 46) (
        .reg false [
          ⟨(some 47), none, .mv false (.t 7), none⟩,
          ⟨(some 48), none, .bin .add .i64 (.t 47) (.c (.int .i64 1)), none⟩,
          ⟨(some 7), none, .mv false (.t 48), none⟩] (some [1, 5, 6, 7, 8])) (
        .skip)))) (
    .reg false [
      ⟨(some 41), none, .mv false (.t 8), none⟩,
      ⟨(some 42), none, .bin .add .i64 (.t 41) (.c (.int .i64 1)), none⟩,
      ⟨(some 8), none, .mv false (.t 42), none⟩] (some [1, 5, 6, 7, 8]))))))) (
.seq (.reg false [
  ⟨(some 49), none, .mv false (.t 7), none⟩,
  ⟨(some 50), none, .bin .leq .i64 (.t 49) (.c (.int .i64 1)), none⟩,
  ⟨(some 51), none, .mv false (.t 50), none⟩,
  ⟨(some 52), some (51, true), .mv false (.t 5), none⟩,
  ⟨(some 53), some (51, true), .not (.t 52), none⟩,
  ⟨(some 54), some (51, true), .mv false (.t 53), none⟩,
  ⟨(some 55), some (54, false), .mv false (.t 6), none⟩,
  ⟨(some 56), some (54, false), .eqb true true (.t 55) (.c (.str [])), none⟩,
  ⟨(some 57), some (51, true), .pick (.t 54) (.c (.bool true)) (.t 56), none⟩,
  ⟨(some 58), none, .pick (.t 51) (.t 57) (.c (.bool false)), none⟩,
  ⟨(some 4), none, .mv false (.t 58), none⟩] (some [4])) (
.ret)))))))))
set_option maxRecDepth 1000000 in
theorem comp_law63_ScriptNames : (Tryd.f7.body.bind fun code => compC Tryd.prog Tryd.f7.ntmps code c_law63_ScriptNames) = some c_law63_ScriptNames.bare := by kernel_rfl
def r_law63_ScriptNames : List R := [.t 4]
theorem spo_law63_ScriptNames {ds : List D} {d : D} (hn : Nat.ble ds.length 59 = true) (h : run TSpC gtab 0 c_law63_ScriptNames (retK r_law63_ScriptNames (· = d)) ⟨env0 0 ds, []⟩) : TSp 7 ds d := Sp_of mixed c_law63_ScriptNames r_law63_ScriptNames (fn := Tryd.f7) (by kernel_rfl) (by kernel_rfl) comp_law63_ScriptNames (by kernel_rfl) hn h
theorem spm_law63_ScriptNames {ds : List D} {d : D} {bx bx' : List Ent} (hn : Nat.ble ds.length 59 = true) (h : run TSpC gtab (sizeE bx) c_law63_ScriptNames (retG r_law63_ScriptNames (fun d1 bx1 => Rt (sizeE bx) bx1 d1 d bx')) ⟨env0 0 ds, bx⟩) : TSpM 7 ds bx d bx' := SpM_of mixed c_law63_ScriptNames r_law63_ScriptNames (fn := Tryd.f7) (by kernel_rfl) (by kernel_rfl) comp_law63_ScriptNames (by kernel_rfl) hn h
/-- glazier/glazierlaw63.ScriptJoins -/
def c_law63_ScriptJoins : C := .seq (.reg false [
  ⟨(some 4), none, .mv false (.c (.bool false)), none⟩] (some [0, 1])) (
.seq (.seq (.reg false [
  ⟨(some 18), none, .call false 9 [], none⟩,
  ⟨(some 19), none, .not (.t 18), none⟩] (some [0, 1, 19])) (
.ite (.t 19) (
  .seq (.reg false [
    ⟨(some 4), none, .mv false (.c (.bool false)), none⟩] (some [4])) (
  .ret)) (
  .skip))) (
.seq (.seq (.reg false [
  ⟨(some 20), none, .mv false (.t 0), none⟩,
  ⟨(some 21), none, .call false 13 [(.t 20)], none⟩,
  ⟨(some 22), none, .call false 14 [(.t 21)], none⟩,
  ⟨(some 23), none, .not (.t 22), none⟩,
  ⟨(some 24), none, .mv false (.t 23), none⟩,
  ⟨(some 25), some (24, false), .mv false (.t 1), none⟩,
  ⟨(some 26), some (24, false), .call false 13 [(.t 25)], none⟩,
  ⟨(some 27), some (24, false), .call false 14 [(.t 26)], none⟩,
  ⟨(some 28), some (24, false), .not (.t 27), none⟩,
  ⟨(some 29), none, .pick (.t 24) (.c (.bool true)) (.t 28), none⟩] (some [0, 1, 29])) (
.ite (.t 29) (
  .seq (.reg false [
    ⟨(some 4), none, .mv false (.c (.bool true)), none⟩] (some [4])) (
  .ret)) (
  .skip))) (
.seq (.reg false [
  ⟨(some 31), none, .mv false (.t 0), none⟩,
  ⟨(some 32), none, .call false 15 [(.t 31)], none⟩,
  ⟨(some 30), none, .mv false (.t 32), none⟩,
  ⟨(some 33), none, .ext (.t 30) 0, none⟩,
  ⟨(some 34), none, .ext (.t 30) 1, none⟩,
  ⟨(some 5), none, .mv false (.t 33), none⟩,
  ⟨(some 6), none, .mv false (.t 34), none⟩] (some [0, 1, 5, 6])) (
.seq (.reg false [
  ⟨(some 36), none, .mv false (.t 1), none⟩,
  ⟨(some 37), none, .call false 15 [(.t 36)], none⟩,
  ⟨(some 35), none, .mv false (.t 37), none⟩,
  ⟨(some 38), none, .ext (.t 35) 0, none⟩,
  ⟨(some 39), none, .ext (.t 35) 1, none⟩,
  ⟨(some 7), none, .mv false (.t 38), none⟩,
  ⟨(some 8), none, .mv false (.t 39), none⟩] (some [0, 1, 5, 6, 7, 8])) (
.seq (.seq (.reg false [
  ⟨(some 40), none, .mv false (.t 6), none⟩,
  ⟨(some 41), none, .bin .neq .i64 (.t 40) (.c (.int .i64 0)), none⟩,
  ⟨(some 42), none, .mv false (.t 41), none⟩,
  ⟨(some 43), some (42, false), .mv false (.t 8), none⟩,
  ⟨(some 44), some (42, false), .bin .neq .i64 (.t 43) (.c (.int .i64 0)), none⟩,
  ⟨(some 45), none, .pick (.t 42) (.c (.bool true)) (.t 44), none⟩,
  ⟨(some 46), none, .mv false (.t 45), none⟩,
  ⟨(some 47), some (46, false), .mv false (.t 5), none⟩,
  ⟨(some 48), some (46, false), .len true (.t 47), none⟩,
  ⟨(some 49), some (46, false), .mv false (.t 7), none⟩,
  ⟨(some 50), some (46, false), .len true (.t 49), none⟩,
  ⟨(some 51), some (46, false), .bin .add .i64 (.t 48) (.t 50), none⟩,
  ⟨(some 52), some (46, false), .bin .gtr .i64 (.t 51) (.c (.int .i64 65536)), none⟩,
  ⟨(some 53), none, .pick (.t 46) (.c (.bool true)) (.t 52), none⟩] (some [0, 1, 5, 7, 53])) (
.ite (.t 53) (
  .seq (.reg false [
    ⟨(some 4), none, .mv false (.c (.bool true)), none⟩] (some [4])) (
  .ret)) (
  .skip))) (
.seq (.reg false [
  ⟨(some 55), none, .mv false (.t 5), none⟩,
  ⟨(some 56), none, .mv false (.t 7), none⟩,
  ⟨(some 57), none, .cat (.t 55) (.t 56), none⟩,
  ⟨(some 58), none, .call false 10 [(.t 57)], none⟩,
  ⟨(some 54), none, .mv false (.t 58), none⟩,
  ⟨(some 59), none, .ext (.t 54) 0, none⟩,
  ⟨(some 60), none, .ext (.t 54) 1, none⟩,
  ⟨(some 61), none, .ext (.t 54) 2, none⟩,
  ⟨(some 9), none, .mv false (.t 59), none⟩,
  ⟨(some 10), none, .mv false (.t 60), none⟩,
  ⟨(some 11), none, .mv false (.t 61), none⟩] (some [0, 1, 5, 7, 9, 10, 11])) (
.seq (.seq (.reg false [
  ⟨(some 62), none, .mv false (.t 11), none⟩,
  ⟨(some 63), none, .bin .neq .i64 (.t 62) (.c (.int .i64 8)), none⟩,
  ⟨(some 64), none, .mv false (.t 63), none⟩,
  ⟨(some 65), some (64, false), .mv false (.t 10), none⟩,
  ⟨(some 66), some (64, false), .mv false (.t 0), none⟩,
  ⟨(some 67), some (64, false), .len false (.t 66), none⟩,
  ⟨(some 68), some (64, false), .bin .add .i64 (.t 67) (.c (.int .i64 1)), none⟩,
  ⟨(some 69), some (64, false), .bin .neq .i64 (.t 65) (.t 68), none⟩,
  ⟨(some 70), none, .pick (.t 64) (.c (.bool true)) (.t 69), none⟩,
  ⟨(some 71), none, .mv false (.t 70), none⟩,
  ⟨(some 72), some (71, false), .mv false (.t 9), none⟩,
  ⟨(some 73), some (71, false), .len false (.t 72), none⟩,
  ⟨(some 74), some (71, false), .bin .neq .i64 (.t 73) (.c (.int .i64 0)), none⟩,
  ⟨(some 75), none, .pick (.t 71) (.c (.bool true)) (.t 74), none⟩] (some [0, 1, 5, 7, 75])) (
.ite (.t 75) (
  .seq (.reg false [
    ⟨(some 4), none, .mv false (.c (.bool false)), none⟩] (some [4])) (
  .ret)) (
  .skip))) (
.seq (.reg true [
  ⟨(some 76), none, .bsl (some false) 42 4 (some 4) [], none⟩,
  ⟨(some 77), none, .mv false (.t 0), none⟩,
  ⟨(some 78), none, .app 42 4 64 (.t 76) (.t 77), none⟩,
  ⟨(some 79), none, .mv false (.t 1), none⟩,
  ⟨(some 80), none, .sls false 4 (.t 79) (some (.c (.int .i64 1))) none, none⟩,
  ⟨(some 81), none, .app 42 4 64 (.t 78) (.t 80), none⟩,
  ⟨(some 12), none, .mv true (.t 81), none⟩] (some [5, 7, 12])) (
.seq (.reg false [
  ⟨(some 83), none, .mv false (.t 12), none⟩,
  ⟨(some 84), none, .call false 15 [(.t 83)], none⟩,
  ⟨(some 82), none, .mv false (.t 84), none⟩,
  ⟨(some 85), none, .ext (.t 82) 0, none⟩,
  ⟨(some 86), none, .ext (.t 82) 1, none⟩,
  ⟨(some 13), none, .mv false (.t 85), none⟩,
  ⟨(some 14), none, .mv false (.t 86), none⟩] (some [5, 7, 12, 13, 14])) (
.seq (.reg false [
  ⟨(some 88), none, .mv false (.t 13), none⟩,
  ⟨(some 89), none, .call false 10 [(.t 88)], none⟩,
  ⟨(some 87), none, .mv false (.t 89), none⟩,
  ⟨(some 90), none, .ext (.t 87) 0, none⟩,
  ⟨(some 91), none, .ext (.t 87) 1, none⟩,
  ⟨(some 92), none, .ext (.t 87) 2, none⟩,
  ⟨(some 15), none, .mv false (.t 90), none⟩,
  ⟨(some 16), none, .mv false (.t 91), none⟩,
  ⟨(some 17), none, .mv false (.t 92), none⟩] (some [5, 7, 12, 13, 14, 15, 17])) (
.seq (.reg false [
  ⟨(some 93), none, .mv false (.t 14), none⟩,
  ⟨(some 94), none, .bin .eql .i64 (.t 93) (.c (.int .i64 0)), none⟩,
  ⟨(some 95), none, .mv false (.t 94), none⟩,
  ⟨(some 96), some (95, true), .mv false (.t 17), none⟩,
  ⟨(some 97), some (95, true), .bin .eql .i64 (.t 96) (.c (.int .i64 0)), none⟩,
  ⟨(some 98), none, .pick (.t 95) (.t 97) (.c (.bool false)), none⟩,
  ⟨(some 99), none, .mv false (.t 98), none⟩,
  ⟨(some 100), some (99, true), .mv false (.t 13), none⟩,
  ⟨(some 101), some (99, true), .len true (.t 100), none⟩,
  ⟨(some 102), some (99, true), .mv false (.t 5), none⟩,
  ⟨(some 103), some (99, true), .len true (.t 102), none⟩,
  ⟨(some 104), some (99, true), .mv false (.t 7), none⟩,
  ⟨(some 105), some (99, true), .len true (.t 104), none⟩,
  ⟨(some 106), some (99, true), .bin .add .i64 (.t 103) (.t 105), none⟩,
  ⟨(some 107), some (99, true), .bin .lss .i64 (.t 101) (.t 106), none⟩,
  ⟨(some 108), none, .pick (.t 99) (.t 107) (.c (.bool false)), none⟩,
  ⟨(some 109), none, .mv false (.t 108), none⟩,
  ⟨(some 110), some (109, true), .mv false (.t 13), none⟩,
  ⟨(some 111), some (109, true), .mv false (.t 5), none⟩,
  ⟨(some 112), some (109, true), .len true (.t 111), none⟩,
  ⟨(some 113), some (109, true), .sst (.t 110) none (some (.t 112)), none⟩,
  ⟨(some 114), some (109, true), .mv false (.t 5), none⟩,
  ⟨(some 115), some (109, true), .eqb false true (.t 113) (.t 114), none⟩,
  ⟨(some 116), none, .pick (.t 109) (.t 115) (.c (.bool false)), none⟩,
  ⟨(some 117), none, .mv false (.t 116), none⟩,
  ⟨(some 118), some (117, true), .mv false (.t 15), none⟩,
  ⟨(some 119), some (117, true), .call false 13 [(.t 118)], none⟩,
  ⟨(some 120), some (117, true), .mv false (.t 12), none⟩,
  ⟨(some 121), some (117, true), .call false 13 [(.t 120)], none⟩,
  ⟨(some 122), some (117, true), .call false 12 [(.t 119), (.t 121), (.c (.bool false))], none⟩,
  ⟨(some 123), none, .pick (.t 117) (.t 122) (.c (.bool false)), none⟩,
  ⟨(some 4), none, .mv false (.t 123), none⟩] (some [4])) (
.ret))))))))))))
set_option maxRecDepth 1000000 in
theorem comp_law63_ScriptJoins : (Tryd.f8.body.bind fun code => compC Tryd.prog Tryd.f8.ntmps code c_law63_ScriptJoins) = some c_law63_ScriptJoins.bare := by kernel_rfl
def r_law63_ScriptJoins : List R := [.t 4]
theorem spo_law63_ScriptJoins {ds : List D} {d : D} (hn : Nat.ble ds.length 124 = true) (h : run TSpC gtab 0 c_law63_ScriptJoins (retK r_law63_ScriptJoins (· = d)) ⟨env0 0 ds, []⟩) : TSp 8 ds d := Sp_of mixed c_law63_ScriptJoins r_law63_ScriptJoins (fn := Tryd.f8) (by kernel_rfl) (by kernel_rfl) comp_law63_ScriptJoins (by kernel_rfl) hn h
theorem spm_law63_ScriptJoins {ds : List D} {d : D} {bx bx' : List Ent} (hn : Nat.ble ds.length 124 = true) (h : run TSpC gtab (sizeE bx) c_law63_ScriptJoins (retG r_law63_ScriptJoins (fun d1 bx1 => Rt (sizeE bx) bx1 d1 d bx')) ⟨env0 0 ds, bx⟩) : TSpM 8 ds bx d bx' := SpM_of mixed c_law63_ScriptJoins r_law63_ScriptJoins (fn := Tryd.f8) (by kernel_rfl) (by kernel_rfl) comp_law63_ScriptJoins (by kernel_rfl) hn h
/-- glazier/glazierlaw63.awake -/
def c_law63_awake : C := .seq (.reg false [
  ⟨(some 0), none, .mv false (.c (.bool false)), none⟩] (some [])) (
.seq (.reg false [
  ⟨(some 7), none, .call false 10 [(.c (.str [115, 99, 114, 101, 101, 110, 32, 50, 48, 32, 49, 48, 10, 106, 111, 105, 110, 32, 112, 108, 97, 105, 110, 32, 48, 32, 49, 10, 10, 35, 32, 97, 32, 119, 111, 114, 100, 10, 115, 97, 121, 32, 49, 32, 49, 49, 32, 54, 57, 54, 101, 54, 51, 55, 50, 32, 48, 10, 98, 121, 116, 101, 115, 32, 49, 32, 45]))], none⟩,
  ⟨(some 6), none, .mv false (.t 7), none⟩,
  ⟨(some 8), none, .ext (.t 6) 0, none⟩,
  ⟨(some 9), none, .ext (.t 6) 1, none⟩,
  ⟨(some 10), none, .ext (.t 6) 2, none⟩,
  ⟨(some 1), none, .mv false (.t 8), none⟩,
  ⟨(some 2), none, .mv false (.t 9), none⟩,
  ⟨(some 3), none, .mv false (.t 10), none⟩] (some [1, 2, 3])) (
.seq (.seq (.reg false [
  ⟨(some 11), none, .mv false (.t 3), none⟩,
  ⟨(some 12), none, .bin .neq .i64 (.t 11) (.c (.int .i64 0)), none⟩,
  ⟨(some 13), none, .mv false (.t 12), none⟩,
  ⟨(some 14), some (13, false), .mv false (.t 2), none⟩,
  ⟨(some 15), some (13, false), .bin .neq .i64 (.t 14) (.c (.int .i64 0)), none⟩,
  ⟨(some 16), none, .pick (.t 13) (.c (.bool true)) (.t 15), none⟩,
  ⟨(some 17), none, .mv false (.t 16), none⟩,
  ⟨(some 18), some (17, false), .mv false (.t 1), none⟩,
  ⟨(some 19), some (17, false), .len false (.t 18), none⟩,
  ⟨(some 20), some (17, false), .bin .neq .i64 (.t 19) (.c (.int .i64 4)), none⟩,
  ⟨(some 21), none, .pick (.t 17) (.c (.bool true)) (.t 20), none⟩] (some [1, 21])) (
.ite (.t 21) (
  .seq (.reg false [
    ⟨(some 0), none, .mv false (.c (.bool false)), none⟩] (some [0])) (
  .ret)) (
  .skip))) (
.seq (.reg false [
  ⟨(some 23), none, .mv false (.t 1), none⟩,
  ⟨(some 24), none, .call false 15 [(.t 23)], none⟩,
  ⟨(some 22), none, .mv false (.t 24), none⟩,
  ⟨(some 25), none, .ext (.t 22) 0, none⟩,
  ⟨(some 26), none, .ext (.t 22) 1, none⟩,
  ⟨(some 4), none, .mv false (.t 25), none⟩,
  ⟨(some 5), none, .mv false (.t 26), none⟩] (some [1, 4, 5])) (
.seq (.reg false [
  ⟨(some 27), none, .mv false (.t 5), none⟩,
  ⟨(some 28), none, .bin .eql .i64 (.t 27) (.c (.int .i64 0)), none⟩,
  ⟨(some 29), none, .mv false (.t 28), none⟩,
  ⟨(some 30), some (29, true), .mv false (.t 4), none⟩,
  ⟨(some 31), some (29, true), .eqb false true (.t 30) (.c (.str [115, 99, 114, 101, 101, 110, 32, 50, 48, 32, 49, 48, 10, 106, 111, 105, 110, 32, 112, 108, 97, 105, 110, 32, 48, 32, 49, 10, 115, 97, 121, 32, 49, 32, 49, 49, 32, 54, 57, 54, 101, 54, 51, 55, 50, 32, 48, 10, 98, 121, 116, 101, 115, 32, 49, 32, 45, 10])), none⟩,
  ⟨(some 32), none, .pick (.t 29) (.t 31) (.c (.bool false)), none⟩,
  ⟨(some 33), none, .mv false (.t 32), none⟩,
  ⟨(some 34), some (33, true), .mv false (.t 1), none⟩,
  ⟨(some 35), some (33, true), .ixs 4 (.t 34) (.c (.int .i64 2)), none⟩,
  ⟨(some 36), some (33, true), .fld 1 (.t 35), none⟩,
  ⟨(some 37), some (33, true), .ld none (.t 36), none⟩,
  ⟨(some 38), some (33, true), .bin .eql .i64 (.t 37) (.c (.int .i64 3)), none⟩,
  ⟨(some 39), none, .pick (.t 33) (.t 38) (.c (.bool false)), none⟩,
  ⟨(some 40), none, .mv false (.t 39), none⟩,
  ⟨(some 41), some (40, true), .mv false (.t 1), none⟩,
  ⟨(some 42), some (40, true), .ixs 4 (.t 41) (.c (.int .i64 2)), none⟩,
  ⟨(some 43), some (40, true), .fld 0 (.t 42), none⟩,
  ⟨(some 44), some (40, true), .ld none (.t 43), none⟩,
  ⟨(some 45), some (40, true), .bin .eql .i64 (.t 44) (.c (.int .i64 5)), none⟩,
  ⟨(some 46), none, .pick (.t 40) (.t 45) (.c (.bool false)), none⟩,
  ⟨(some 47), none, .mv false (.t 46), none⟩,
  ⟨(some 48), some (47, true), .mv false (.t 1), none⟩,
  ⟨(some 49), some (47, true), .ixs 4 (.t 48) (.c (.int .i64 2)), none⟩,
  ⟨(some 50), some (47, true), .fld 2 (.t 49), none⟩,
  ⟨(some 51), some (47, true), .ld none (.t 50), none⟩,
  ⟨(some 52), some (47, true), .len false (.t 51), none⟩,
  ⟨(some 53), some (47, true), .bin .eql .i64 (.t 52) (.c (.int .i64 3)), none⟩,
  ⟨(some 54), none, .pick (.t 47) (.t 53) (.c (.bool false)), none⟩,
  ⟨(some 55), none, .mv false (.t 54), none⟩,
  ⟨(some 56), some (55, true), .mv false (.t 1), none⟩,
  ⟨(some 57), some (55, true), .ixs 4 (.t 56) (.c (.int .i64 2)), none⟩,
  ⟨(some 58), some (55, true), .fld 2 (.t 57), none⟩,
  ⟨(some 59), some (55, true), .ld none (.t 58), none⟩,
  ⟨(some 60), some (55, true), .ixs 1 (.t 59) (.c (.int .i64 2)), none⟩,
  ⟨(some 61), some (55, true), .ld none (.t 60), none⟩,
  ⟨(some 62), some (55, true), .bin .eql .i64 (.t 61) (.c (.int .i64 0)), none⟩,
  ⟨(some 63), none, .pick (.t 55) (.t 62) (.c (.bool false)), none⟩,
  ⟨(some 64), none, .mv false (.t 63), none⟩,
  ⟨(some 65), some (64, true), .mv false (.t 1), none⟩,
  ⟨(some 66), some (64, true), .ixs 4 (.t 65) (.c (.int .i64 2)), none⟩,
  ⟨(some 67), some (64, true), .fld 3 (.t 66), none⟩,
  ⟨(some 68), some (64, true), .ld none (.t 67), none⟩,
  ⟨(some 69), some (64, true), .len false (.t 68), none⟩,
  ⟨(some 70), some (64, true), .bin .eql .i64 (.t 69) (.c (.int .i64 1)), none⟩,
  ⟨(some 71), none, .pick (.t 64) (.t 70) (.c (.bool false)), none⟩,
  ⟨(some 72), none, .mv false (.t 71), none⟩,
  ⟨(some 73), some (72, true), .mv false (.t 1), none⟩,
  ⟨(some 74), some (72, true), .ixs 4 (.t 73) (.c (.int .i64 2)), none⟩,
  ⟨(some 75), some (72, true), .fld 3 (.t 74), none⟩,
  ⟨(some 76), some (72, true), .ld none (.t 75), none⟩,
  ⟨(some 77), some (72, true), .ixs 1 (.t 76) (.c (.int .i64 0)), none⟩,
  ⟨(some 78), some (72, true), .ld none (.t 77), none⟩,
  ⟨(some 79), some (72, true), .eqb false true (.t 78) (.c (.str [54, 57, 54, 101, 54, 51, 55, 50])), none⟩,
  ⟨(some 80), none, .pick (.t 72) (.t 79) (.c (.bool false)), none⟩,
  ⟨(some 81), none, .mv false (.t 80), none⟩,
  ⟨(some 82), some (81, true), .call false 17 [(.c (.int .i64 15))], none⟩,
  ⟨(some 83), some (81, true), .eqb false true (.t 82) (.c (.str [97, 117, 100, 105, 116])), none⟩,
  ⟨(some 84), none, .pick (.t 81) (.t 83) (.c (.bool false)), none⟩,
  ⟨(some 0), none, .mv false (.t 84), none⟩] (some [0])) (
.ret)))))
set_option maxRecDepth 1000000 in
theorem comp_law63_awake : (Tryd.f9.body.bind fun code => compC Tryd.prog Tryd.f9.ntmps code c_law63_awake) = some c_law63_awake.bare := by kernel_rfl
def r_law63_awake : List R := [.t 0]
theorem spo_law63_awake {ds : List D} {d : D} (hn : Nat.ble ds.length 85 = true) (h : run TSpC gtab 0 c_law63_awake (retK r_law63_awake (· = d)) ⟨env0 0 ds, []⟩) : TSp 9 ds d := Sp_of mixed c_law63_awake r_law63_awake (fn := Tryd.f9) (by kernel_rfl) (by kernel_rfl) comp_law63_awake (by kernel_rfl) hn h
theorem spm_law63_awake {ds : List D} {d : D} {bx bx' : List Ent} (hn : Nat.ble ds.length 85 = true) (h : run TSpC gtab (sizeE bx) c_law63_awake (retG r_law63_awake (fun d1 bx1 => Rt (sizeE bx) bx1 d1 d bx')) ⟨env0 0 ds, bx⟩) : TSpM 9 ds bx d bx' := SpM_of mixed c_law63_awake r_law63_awake (fn := Tryd.f9) (by kernel_rfl) (by kernel_rfl) comp_law63_awake (by kernel_rfl) hn h
/-- glazier/script.Parse -/
def c_script_Parse : C := .seq (.reg false [
  ⟨(some 2), none, .nilS 42 4, none⟩,
  ⟨(some 3), none, .mv false (.c (.int .i64 0)), none⟩,
  ⟨(some 4), none, .mv false (.c (.int .i64 0)), none⟩] (some [0])) (
.seq (.seq (.reg false [
  ⟨(some 10), none, .mv false (.t 0), none⟩,
  ⟨(some 11), none, .len true (.t 10), none⟩,
  ⟨(some 12), none, .bin .gtr .i64 (.t 11) (.c (.int .i64 65536)), none⟩] (some [0, 12])) (
.ite (.t 12) (
  .seq (.reg false [
    ⟨(some 2), none, .nilS 42 4, none⟩,
    ⟨(some 3), none, .mv false (.c (.int .i64 0)), none⟩,
    ⟨(some 4), none, .mv false (.c (.int .i64 4)), none⟩] (some [2, 3, 4])) (
  .ret)) (
  .skip))) (
.seq (.reg false [
  ⟨(some 5), none, .nilS 42 4, none⟩] (some [0, 5])) (
.seq (.seq (.reg false [
  ⟨(some 13), none, .mv false (.t 0), none⟩,
  ⟨(some 14), none, .call false 19 [(.t 13), (.c (.str [10]))], none⟩,
  ⟨(some 15), none, .len false (.t 14), none⟩,
  ⟨(some 16), none, .mv false (.c (.int .i64 0)), none⟩] (some [5, 14, 15, 16])) (
.blk 0 (
  .loop (
    .seq (.reg false [
      ⟨(some 17), none, .bin .lss .i64 (.t 16) (.t 15), none⟩] (some [5, 14, 15, 16, 17])) (
    .seq (.ite (.t 17) (
      .skip) (
      .exit 0)) (
    .seq (.blk 1 (
      .seq (.reg false [
        ⟨(some 18), none, .mv false (.t 16), none⟩,
        ⟨(some 19), none, .ixs 1 (.t 14) (.t 16), none⟩,
        ⟨(some 20), none, .ld none (.t 19), none⟩,
        ⟨(some 6), none, .mv false (.t 18), none⟩,
        ⟨(some 7), none, .mv false (.t 20), none⟩] (some [5, 6, 7, 14, 15, 16])) (
      .seq (.seq (.reg false [
        ⟨(some 21), none, .mv false (.t 7), none⟩,
        ⟨(some 22), none, .eqb false true (.t 21) (.c (.str [])), none⟩,
        ⟨(some 23), none, .mv false (.t 22), none⟩,
        ⟨(some 24), some (23, false), .mv false (.t 7), none⟩,
        ⟨(some 25), some (23, false), .sidx (.t 24) (.c (.int .i64 0)), none⟩,
        ⟨(some 26), some (23, false), .bin .eql .u8 (.t 25) (.c (.int .u8 35)), none⟩,
        ⟨(some 27), none, .pick (.t 23) (.c (.bool true)) (.t 26), none⟩] (some [5, 6, 7, 14, 15, 16, 27])) (
      .ite (.t 27) (
        .exit 1) (
        .skip))) (
      .seq (.reg false [
        ⟨(some 29), none, .mv false (.t 7), none⟩,
        ⟨(some 30), none, .call false 20 [(.t 29)], none⟩,
        ⟨(some 28), none, .mv false (.t 30), none⟩,
        ⟨(some 31), none, .ext (.t 28) 0, none⟩,
        ⟨(some 32), none, .ext (.t 28) 1, none⟩,
        ⟨(some 8), none, .alloc [(.int .i64 0), (.int .i64 0), (.ls 1 []), (.ls 1 [])], none⟩,
        ⟨none, none, .st (some 4) (.t 8) (.t 31), none⟩,
        ⟨(some 9), none, .mv false (.t 32), none⟩] (some [5, 6, 8, 9, 14, 15, 16])) (
      .seq (.seq (.reg false [
        ⟨(some 33), none, .mv false (.t 9), none⟩,
        ⟨(some 34), none, .bin .eql .i64 (.t 33) (.c (.int .i64 0)), none⟩] (some [5, 6, 8, 9, 14, 15, 16, 34])) (
      .ite (.t 34) (
        .reg false [
          ⟨(some 35), none, .ld (some 4) (.t 8), none⟩,
          ⟨(some 36), none, .mv false (.t 5), none⟩,
          ⟨(some 37), none, .len false (.t 36), none⟩,
          ⟨(some 38), none, .bin .eql .i64 (.t 37) (.c (.int .i64 0)), none⟩,
          ⟨(some 39), none, .call false 21 [(.t 35), (.t 38)], none⟩,
          ⟨(some 9), none, .mv false (.t 39), none⟩] (some [5, 6, 8, 9, 14, 15, 16])) (
        .skip))) (
      .seq (.seq (.reg false [
        ⟨(some 40), none, .mv false (.t 9), none⟩,
        ⟨(some 41), none, .bin .eql .i64 (.t 40) (.c (.int .i64 0)), none⟩,
        ⟨(some 42), none, .mv false (.t 41), none⟩,
        ⟨(some 43), some (42, true), .mv false (.t 5), none⟩,
        ⟨(some 44), some (42, true), .len false (.t 43), none⟩,
        ⟨(some 45), some (42, true), .bin .geq .i64 (.t 44) (.c (.int .i64 1000)), none⟩,
        ⟨(some 46), none, .pick (.t 42) (.t 45) (.c (.bool false)), none⟩] (some [5, 6, 8, 9, 14, 15, 16, 46])) (
      .ite (.t 46) (
        .reg false [
          ⟨(some 9), none, .mv false (.c (.int .i64 5)), none⟩] (some [5, 6, 8, 9, 14, 15, 16])) (
        .skip))) (
      .seq (.seq (.reg false [
        ⟨(some 47), none, .mv false (.t 9), none⟩,
        ⟨(some 48), none, .bin .neq .i64 (.t 47) (.c (.int .i64 0)), none⟩] (some [5, 6, 8, 9, 14, 15, 16, 48])) (
      .ite (.t 48) (
        .seq (.reg false [
          ⟨(some 49), none, .mv false (.t 6), none⟩,
          ⟨(some 50), none, .bin .add .i64 (.t 49) (.c (.int .i64 1)), none⟩,
          ⟨(some 51), none, .mv false (.t 9), none⟩,
          ⟨(some 2), none, .nilS 42 4, none⟩,
          ⟨(some 3), none, .mv false (.t 50), none⟩,
          ⟨(some 4), none, .mv false (.t 51), none⟩] (some [2, 3, 4])) (
        .ret)) (
        .skip))) (
      .seq (.reg false [
        ⟨(some 52), none, .mv false (.t 6), none⟩,
        ⟨(some 53), none, .bin .add .i64 (.t 52) (.c (.int .i64 1)), none⟩,
        ⟨(some 54), none, .fld 0 (.t 8), none⟩,
        ⟨none, none, .st none (.t 54) (.t 53), none⟩] (some [5, 8, 14, 15, 16])) (
      .reg false [
        ⟨(some 55), none, .mv false (.t 5), none⟩,
        ⟨(some 56), none, .ld (some 4) (.t 8), none⟩,
        ⟨(some 57), none, .bsl none 42 4 (some 4) [(.t 56)], none⟩,
        ⟨(some 58), none, .app 42 4 64 (.t 55) (.t 57), none⟩,
        ⟨(some 5), none, .mv false (.t 58), none⟩] (some [5, 14, 15, 16])))))))))) (
    .reg false [
      ⟨(some 59), none, .bin .add .i64 (.t 16) (.c (.int .i64 1)), none⟩,
      ⟨(some 16), none, .mv false (.t 59), none⟩] (some [5, 14, 15, 16])))))))) (
.seq (.seq (.reg false [
  ⟨(some 60), none, .mv false (.t 5), none⟩,
  ⟨(some 61), none, .len false (.t 60), none⟩,
  ⟨(some 62), none, .bin .eql .i64 (.t 61) (.c (.int .i64 0)), none⟩] (some [5, 62])) (
.ite (.t 62) (
  .seq (.reg false [
    ⟨(some 2), none, .nilS 42 4, none⟩,
    ⟨(some 3), none, .mv false (.c (.int .i64 0)), none⟩,
    ⟨(some 4), none, .mv false (.c (.int .i64 13)), none⟩] (some [2, 3, 4])) (
  .ret)) (
  .skip))) (
.seq (.reg false [
  ⟨(some 63), none, .mv false (.t 5), none⟩,
  ⟨(some 2), none, .mv false (.t 63), none⟩,
  ⟨(some 3), none, .mv false (.c (.int .i64 0)), none⟩,
  ⟨(some 4), none, .mv false (.c (.int .i64 0)), none⟩] (some [2, 3, 4])) (
.ret))))))
set_option maxRecDepth 1000000 in
theorem comp_script_Parse : (Tryd.f10.body.bind fun code => compC Tryd.prog Tryd.f10.ntmps code c_script_Parse) = some c_script_Parse.bare := by kernel_rfl
def r_script_Parse : List R := [.t 2, .t 3, .t 4]
theorem spo_script_Parse {ds : List D} {d : D} (hn : Nat.ble ds.length 64 = true) (h : run TSpC gtab 0 c_script_Parse (retK r_script_Parse (· = d)) ⟨env0 0 ds, []⟩) : TSp 10 ds d := Sp_of mixed c_script_Parse r_script_Parse (fn := Tryd.f10) (by kernel_rfl) (by kernel_rfl) comp_script_Parse (by kernel_rfl) hn h
theorem spm_script_Parse {ds : List D} {d : D} {bx bx' : List Ent} (hn : Nat.ble ds.length 64 = true) (h : run TSpC gtab (sizeE bx) c_script_Parse (retG r_script_Parse (fun d1 bx1 => Rt (sizeE bx) bx1 d1 d bx')) ⟨env0 0 ds, bx⟩) : TSpM 10 ds bx d bx' := SpM_of mixed c_script_Parse r_script_Parse (fn := Tryd.f10) (by kernel_rfl) (by kernel_rfl) comp_script_Parse (by kernel_rfl) hn h
/-- glazier/glazierref63.Parse -/
def c_ref63_Parse : C := .seq (.reg false [
  ⟨(some 2), none, .nilS 54 4, none⟩,
  ⟨(some 3), none, .mv false (.c (.int .i64 0)), none⟩,
  ⟨(some 4), none, .mv false (.c (.int .i64 0)), none⟩] (some [0])) (
.seq (.seq (.reg false [
  ⟨(some 10), none, .mv false (.t 0), none⟩,
  ⟨(some 11), none, .len true (.t 10), none⟩,
  ⟨(some 12), none, .bin .gtr .i64 (.t 11) (.c (.int .i64 65536)), none⟩] (some [0, 12])) (
.ite (.t 12) (
  .seq (.reg false [
    ⟨(some 2), none, .nilS 54 4, none⟩,
    ⟨(some 3), none, .mv false (.c (.int .i64 0)), none⟩,
    ⟨(some 4), none, .mv false (.c (.int .i64 4)), none⟩] (some [2, 3, 4])) (
  .ret)) (
  .skip))) (
.seq (.reg false [
  ⟨(some 13), none, .mv false (.t 0), none⟩,
  ⟨(some 14), none, .call false 22 [(.t 13), (.c (.int .u8 10))], none⟩,
  ⟨(some 5), none, .mv false (.t 14), none⟩] (some [5])) (
.seq (.reg false [
  ⟨(some 6), none, .nilS 54 4, none⟩] (some [5, 6])) (
.seq (.seq (.reg false [
  ⟨(some 7), none, .mv false (.c (.int .i64 0)), none⟩] (some [5, 6, 7])) (
.blk 0 (
  .loop (
    .seq (.seq (.reg false [
      ⟨(some 15), none, .mv false (.t 7), none⟩,
      ⟨(some 16), none, .mv false (.t 5), none⟩,
      ⟨(some 17), none, .len false (.t 16), none⟩,
      ⟨(some 18), none, .bin .lss .i64 (.t 15) (.t 17), none⟩] (some [5, 6, 7, 18])) (
    .ite (.t 18) (
      .skip) (
      .exit 0))) (
    .seq (.blk 1 (
      .seq (.seq (.reg false [
        ⟨(some 21), none, .mv false (.t 5), none⟩,
        ⟨(some 22), none, .mv false (.t 7), none⟩,
        ⟨(some 23), none, .ixs 1 (.t 21) (.t 22), none⟩,
        ⟨(some 24), none, .ld none (.t 23), none⟩,
        ⟨(some 25), none, .eqb false true (.t 24) (.c (.str [])), none⟩,
        ⟨(some 26), none, .mv false (.t 25), none⟩,
        ⟨(some 27), some (26, false), .mv false (.t 5), none⟩,
        ⟨(some 28), some (26, false), .mv false (.t 7), none⟩,
        ⟨(some 29), some (26, false), .ixs 1 (.t 27) (.t 28), none⟩,
        ⟨(some 30), some (26, false), .ld none (.t 29), none⟩,
        ⟨(some 31), some (26, false), .sidx (.t 30) (.c (.int .i64 0)), none⟩,
        ⟨(some 32), some (26, false), .bin .eql .u8 (.t 31) (.c (.int .u8 35)), none⟩,
        ⟨(some 33), none, .pick (.t 26) (.c (.bool true)) (.t 32), none⟩] (some [5, 6, 7, 33])) (
      .ite (.t 33) (
        .exit 1) (
        .skip))) (
      .seq (.reg false [
        ⟨(some 35), none, .mv false (.t 5), none⟩,
        ⟨(some 36), none, .mv false (.t 7), none⟩,
        ⟨(some 37), none, .ixs 1 (.t 35) (.t 36), none⟩,
        ⟨(some 38), none, .ld none (.t 37), none⟩,
        ⟨(some 39), none, .call false 23 [(.t 38)], none⟩,
        ⟨(some 34), none, .mv false (.t 39), none⟩,
        ⟨(some 40), none, .ext (.t 34) 0, none⟩,
        ⟨(some 41), none, .ext (.t 34) 1, none⟩,
        ⟨(some 8), none, .alloc [(.int .i64 0), (.int .i64 0), (.ls 1 []), (.ls 1 [])], none⟩,
        ⟨none, none, .st (some 4) (.t 8) (.t 40), none⟩,
        ⟨(some 9), none, .mv false (.t 41), none⟩] (some [5, 6, 7, 8, 9])) (
      .seq (.seq (.reg false [
        ⟨(some 42), none, .mv false (.t 9), none⟩,
        ⟨(some 43), none, .bin .neq .i64 (.t 42) (.c (.int .i64 0)), none⟩] (some [5, 6, 7, 8, 9, 43])) (
      .ite (.t 43) (
        .seq (.reg false [
          ⟨(some 44), none, .mv false (.t 7), none⟩,
          ⟨(some 45), none, .bin .add .i64 (.t 44) (.c (.int .i64 1)), none⟩,
          ⟨(some 46), none, .mv false (.t 9), none⟩,
          ⟨(some 2), none, .nilS 54 4, none⟩,
          ⟨(some 3), none, .mv false (.t 45), none⟩,
          ⟨(some 4), none, .mv false (.t 46), none⟩] (some [2, 3, 4])) (
        .ret)) (
        .skip))) (
      .seq (.seq (.reg false [
        ⟨(some 47), none, .fld 1 (.t 8), none⟩,
        ⟨(some 48), none, .ld none (.t 47), none⟩,
        ⟨(some 49), none, .bin .eql .i64 (.t 48) (.c (.int .i64 0)), none⟩,
        ⟨(some 50), none, .mv false (.t 6), none⟩,
        ⟨(some 51), none, .len false (.t 50), none⟩,
        ⟨(some 52), none, .bin .eql .i64 (.t 51) (.c (.int .i64 0)), none⟩,
        ⟨(some 53), none, .eqb true false (.t 49) (.t 52), none⟩] (some [5, 6, 7, 8, 53])) (
      .ite (.t 53) (
        .seq (.reg false [
          ⟨(some 54), none, .mv false (.t 7), none⟩,
          ⟨(some 55), none, .bin .add .i64 (.t 54) (.c (.int .i64 1)), none⟩,
          ⟨(some 2), none, .nilS 54 4, none⟩,
          ⟨(some 3), none, .mv false (.t 55), none⟩,
          ⟨(some 4), none, .mv false (.c (.int .i64 8)), none⟩] (some [2, 3, 4])) (
        .ret)) (
        .skip))) (
      .seq (.seq (.reg false [
        ⟨(some 56), none, .mv false (.t 6), none⟩,
        ⟨(some 57), none, .len false (.t 56), none⟩,
        ⟨(some 58), none, .bin .geq .i64 (.t 57) (.c (.int .i64 1000)), none⟩] (some [5, 6, 7, 8, 58])) (
      .ite (.t 58) (
        .seq (.reg false [
          ⟨(some 59), none, .mv false (.t 7), none⟩,
          ⟨(some 60), none, .bin .add .i64 (.t 59) (.c (.int .i64 1)), none⟩,
          ⟨(some 2), none, .nilS 54 4, none⟩,
          ⟨(some 3), none, .mv false (.t 60), none⟩,
          ⟨(some 4), none, .mv false (.c (.int .i64 5)), none⟩] (some [2, 3, 4])) (
        .ret)) (
        .skip))) (
      .seq (.reg false [
        ⟨(some 61), none, .mv false (.t 7), none⟩,
        ⟨(some 62), none, .bin .add .i64 (.t 61) (.c (.int .i64 1)), none⟩,
        ⟨(some 63), none, .fld 0 (.t 8), none⟩,
        ⟨none, none, .st none (.t 63) (.t 62), none⟩] (some [5, 6, 7, 8])) (
      .reg false [
        ⟨(some 64), none, .mv false (.t 6), none⟩,
        ⟨(some 65), none, .ld (some 4) (.t 8), none⟩,
        ⟨(some 66), none, .bsl none 54 4 (some 4) [(.t 65)], none⟩,
        ⟨(some 67), none, .app 54 4 64 (.t 64) (.t 66), none⟩,
        ⟨(some 6), none, .mv false (.t 67), none⟩] (some [5, 6, 7]))))))))) (
    .reg false [
      ⟨(some 19), none, .mv false (.t 7), none⟩,
      ⟨(some 20), none, .bin .add .i64 (.t 19) (.c (.int .i64 1)), none⟩,
      ⟨(some 7), none, .mv false (.t 20), none⟩] (some [5, 6, 7]))))))) (
.seq (.seq (.reg false [
  ⟨(some 68), none, .mv false (.t 6), none⟩,
  ⟨(some 69), none, .len false (.t 68), none⟩,
  ⟨(some 70), none, .bin .eql .i64 (.t 69) (.c (.int .i64 0)), none⟩] (some [6, 70])) (
.ite (.t 70) (
  .seq (.reg false [
    ⟨(some 2), none, .nilS 54 4, none⟩,
    ⟨(some 3), none, .mv false (.c (.int .i64 0)), none⟩,
    ⟨(some 4), none, .mv false (.c (.int .i64 13)), none⟩] (some [2, 3, 4])) (
  .ret)) (
  .skip))) (
.seq (.reg false [
  ⟨(some 71), none, .mv false (.t 6), none⟩,
  ⟨(some 2), none, .mv false (.t 71), none⟩,
  ⟨(some 3), none, .mv false (.c (.int .i64 0)), none⟩,
  ⟨(some 4), none, .mv false (.c (.int .i64 0)), none⟩] (some [2, 3, 4])) (
.ret)))))))
set_option maxRecDepth 1000000 in
theorem comp_ref63_Parse : (Tryd.f11.body.bind fun code => compC Tryd.prog Tryd.f11.ntmps code c_ref63_Parse) = some c_ref63_Parse.bare := by kernel_rfl
def r_ref63_Parse : List R := [.t 2, .t 3, .t 4]
theorem spo_ref63_Parse {ds : List D} {d : D} (hn : Nat.ble ds.length 72 = true) (h : run TSpC gtab 0 c_ref63_Parse (retK r_ref63_Parse (· = d)) ⟨env0 0 ds, []⟩) : TSp 11 ds d := Sp_of mixed c_ref63_Parse r_ref63_Parse (fn := Tryd.f11) (by kernel_rfl) (by kernel_rfl) comp_ref63_Parse (by kernel_rfl) hn h
theorem spm_ref63_Parse {ds : List D} {d : D} {bx bx' : List Ent} (hn : Nat.ble ds.length 72 = true) (h : run TSpC gtab (sizeE bx) c_ref63_Parse (retG r_ref63_Parse (fun d1 bx1 => Rt (sizeE bx) bx1 d1 d bx')) ⟨env0 0 ds, bx⟩) : TSpM 11 ds bx d bx' := SpM_of mixed c_ref63_Parse r_ref63_Parse (fn := Tryd.f11) (by kernel_rfl) (by kernel_rfl) comp_ref63_Parse (by kernel_rfl) hn h
/-- glazier/glazierref63.Same -/
def c_ref63_Same : C := .seq (.reg false [
  ⟨(some 6), none, .mv false (.c (.bool false)), none⟩] (some [0, 1, 2])) (
.seq (.seq (.reg false [
  ⟨(some 12), none, .mv false (.t 0), none⟩,
  ⟨(some 13), none, .len false (.t 12), none⟩,
  ⟨(some 14), none, .mv false (.t 1), none⟩,
  ⟨(some 15), none, .len false (.t 14), none⟩,
  ⟨(some 16), none, .bin .neq .i64 (.t 13) (.t 15), none⟩] (some [0, 1, 2, 16])) (
.ite (.t 16) (
  .seq (.reg false [
    ⟨(some 6), none, .mv false (.c (.bool false)), none⟩] (some [6])) (
  .ret)) (
  .skip))) (
.seq (.seq (.reg false [
  ⟨(some 7), none, .mv false (.c (.int .i64 0)), none⟩] (some [0, 1, 2, 7])) (
.blk 0 (
  .loop (
    .seq (.seq (.reg false [
      ⟨(some 17), none, .mv false (.t 7), none⟩,
      ⟨(some 18), none, .mv false (.t 0), none⟩,
      ⟨(some 19), none, .len false (.t 18), none⟩,
      ⟨(some 20), none, .bin .lss .i64 (.t 17) (.t 19), none⟩] (some [0, 1, 2, 7, 20])) (
    .ite (.t 20) (
      .skip) (
      .exit 0))) (
    .seq (.blk 1 (
      .seq (.reg true [
        ⟨(some 23), none, .mv false (.t 0), none⟩,
        ⟨(some 24), none, .mv false (.t 7), none⟩,
        ⟨(some 25), none, .ixs 4 (.t 23) (.t 24), (some [])⟩,
        ⟨(some 26), none, .ld (some 4) (.t 25), (some [])⟩,
        ⟨(some 27), none, .mv false (.t 1), none⟩,
        ⟨(some 28), none, .mv false (.t 7), none⟩,
        ⟨(some 29), none, .ixs 4 (.t 27) (.t 28), (some [])⟩,
        ⟨(some 30), none, .ld (some 4) (.t 29), (some [])⟩,
        ⟨(some 8), none, .alloc [(.int .i64 0), (.int .i64 0), (.ls 1 []), (.ls 1 [])], (some [0, 1])⟩,
        ⟨(some 9), none, .alloc [(.int .i64 0), (.int .i64 0), (.ls 1 []), (.ls 1 [])], (some [0, 1])⟩,
        ⟨none, none, .st (some 4) (.t 8) (.t 26), none⟩,
        ⟨none, none, .st (some 4) (.t 9) (.t 30), none⟩] (some [0, 1, 2, 7, 8, 9])) (
      .seq (.seq (.reg false [
        ⟨(some 31), none, .mv false (.t 2), none⟩,
        ⟨(some 32), none, .mv false (.t 31), none⟩,
        ⟨(some 33), some (32, true), .fld 0 (.t 8), none⟩,
        ⟨(some 34), some (32, true), .ld none (.t 33), none⟩,
        ⟨(some 35), some (32, true), .fld 0 (.t 9), none⟩,
        ⟨(some 36), some (32, true), .ld none (.t 35), none⟩,
        ⟨(some 37), some (32, true), .bin .neq .i64 (.t 34) (.t 36), none⟩,
        ⟨(some 38), none, .pick (.t 32) (.t 37) (.c (.bool false)), none⟩,
        ⟨(some 39), none, .mv false (.t 38), none⟩,
        ⟨(some 40), some (39, false), .fld 1 (.t 8), none⟩,
        ⟨(some 41), some (39, false), .ld none (.t 40), none⟩,
        ⟨(some 42), some (39, false), .fld 1 (.t 9), none⟩,
        ⟨(some 43), some (39, false), .ld none (.t 42), none⟩,
        ⟨(some 44), some (39, false), .bin .neq .i64 (.t 41) (.t 43), none⟩,
        ⟨(some 45), none, .pick (.t 39) (.c (.bool true)) (.t 44), none⟩,
        ⟨(some 46), none, .mv false (.t 45), none⟩,
        ⟨(some 47), some (46, false), .fld 2 (.t 8), none⟩,
        ⟨(some 48), some (46, false), .ld none (.t 47), none⟩,
        ⟨(some 49), some (46, false), .len false (.t 48), none⟩,
        ⟨(some 50), some (46, false), .fld 2 (.t 9), none⟩,
        ⟨(some 51), some (46, false), .ld none (.t 50), none⟩,
        ⟨(some 52), some (46, false), .len false (.t 51), none⟩,
        ⟨(some 53), some (46, false), .bin .neq .i64 (.t 49) (.t 52), none⟩,
        ⟨(some 54), none, .pick (.t 46) (.c (.bool true)) (.t 53), none⟩,
        ⟨(some 55), none, .mv false (.t 54), none⟩,
        ⟨(some 56), some (55, false), .fld 3 (.t 8), none⟩,
        ⟨(some 57), some (55, false), .ld none (.t 56), none⟩,
        ⟨(some 58), some (55, false), .len false (.t 57), none⟩,
        ⟨(some 59), some (55, false), .fld 3 (.t 9), none⟩,
        ⟨(some 60), some (55, false), .ld none (.t 59), none⟩,
        ⟨(some 61), some (55, false), .len false (.t 60), none⟩,
        ⟨(some 62), some (55, false), .bin .neq .i64 (.t 58) (.t 61), none⟩,
        ⟨(some 63), none, .pick (.t 55) (.c (.bool true)) (.t 62), none⟩] (some [0, 1, 2, 7, 8, 9, 63])) (
      .ite (.t 63) (
        .seq (.reg false [
          ⟨(some 6), none, .mv false (.c (.bool false)), none⟩] (some [6])) (
        .ret)) (
        .skip))) (
      .seq (.seq (.reg false [
        ⟨(some 10), none, .mv false (.c (.int .i64 0)), none⟩] (some [0, 1, 2, 7, 8, 9, 10])) (
      .blk 2 (
        .loop (
          .seq (.seq (.reg false [
            ⟨(some 64), none, .mv false (.t 10), none⟩,
            ⟨(some 65), none, .fld 2 (.t 8), none⟩,
            ⟨(some 66), none, .ld none (.t 65), none⟩,
            ⟨(some 67), none, .len false (.t 66), none⟩,
            ⟨(some 68), none, .bin .lss .i64 (.t 64) (.t 67), none⟩] (some [0, 1, 2, 7, 8, 9, 10, 68])) (
          .ite (.t 68) (
            .skip) (
            .exit 2))) (
          .seq (.blk 3 (
            .seq (.reg true [
              ⟨(some 71), none, .fld 2 (.t 8), none⟩,
              ⟨(some 72), none, .ld none (.t 71), none⟩,
              ⟨(some 73), none, .mv false (.t 10), none⟩,
              ⟨(some 74), none, .ixs 1 (.t 72) (.t 73), none⟩,
              ⟨(some 75), none, .ld none (.t 74), none⟩,
              ⟨(some 76), none, .fld 2 (.t 9), none⟩,
              ⟨(some 77), none, .ld none (.t 76), none⟩,
              ⟨(some 78), none, .mv false (.t 10), none⟩,
              ⟨(some 79), none, .ixs 1 (.t 77) (.t 78), none⟩,
              ⟨(some 80), none, .ld none (.t 79), none⟩,
              ⟨(some 81), none, .bin .neq .i64 (.t 75) (.t 80), none⟩] (some [0, 1, 2, 7, 8, 9, 10, 81])) (
            .ite (.t 81) (
              .seq (.reg false [
                ⟨(some 6), none, .mv false (.c (.bool false)), none⟩] (some [6])) (
              .ret)) (
              .skip)))) (
          .reg false [
            ⟨(some 69), none, .mv false (.t 10), none⟩,
            ⟨(some 70), none, .bin .add .i64 (.t 69) (.c (.int .i64 1)), none⟩,
            ⟨(some 10), none, .mv false (.t 70), none⟩] (some [0, 1, 2, 7, 8, 9, 10]))))))) (
      .seq (.reg false [
        ⟨(some 11), none, .mv false (.c (.int .i64 0)), none⟩] (some [0, 1, 2, 7, 8, 9, 11])) (
      .blk 4 (
        .loop (
          .seq (.seq (.reg false [
            ⟨(some 82), none, .mv false (.t 11), none⟩,
            ⟨(some 83), none, .fld 3 (.t 8), none⟩,
            ⟨(some 84), none, .ld none (.t 83), none⟩,
            ⟨(some 85), none, .len false (.t 84), none⟩,
            ⟨(some 86), none, .bin .lss .i64 (.t 82) (.t 85), none⟩] (some [0, 1, 2, 7, 8, 9, 11, 86])) (
          .ite (.t 86) (
            .skip) (
            .exit 4))) (
          .seq (.blk 5 (
            .seq (.reg true [
              ⟨(some 89), none, .fld 3 (.t 8), none⟩,
              ⟨(some 90), none, .ld none (.t 89), none⟩,
              ⟨(some 91), none, .mv false (.t 11), none⟩,
              ⟨(some 92), none, .ixs 1 (.t 90) (.t 91), none⟩,
              ⟨(some 93), none, .ld none (.t 92), none⟩,
              ⟨(some 94), none, .fld 3 (.t 9), none⟩,
              ⟨(some 95), none, .ld none (.t 94), none⟩,
              ⟨(some 96), none, .mv false (.t 11), none⟩,
              ⟨(some 97), none, .ixs 1 (.t 95) (.t 96), none⟩,
              ⟨(some 98), none, .ld none (.t 97), none⟩,
              ⟨(some 99), none, .eqb true true (.t 93) (.t 98), none⟩] (some [0, 1, 2, 7, 8, 9, 11, 99])) (
            .ite (.t 99) (
              .seq (.reg false [
                ⟨(some 6), none, .mv false (.c (.bool false)), none⟩] (some [6])) (
              .ret)) (
              .skip)))) (
          .reg false [
            ⟨(some 87), none, .mv false (.t 11), none⟩,
            ⟨(some 88), none, .bin .add .i64 (.t 87) (.c (.int .i64 1)), none⟩,
            ⟨(some 11), none, .mv false (.t 88), none⟩] (some [0, 1, 2, 7, 8, 9, 11]))))))))))) (
    .reg false [
      ⟨(some 21), none, .mv false (.t 7), none⟩,
      ⟨(some 22), none, .bin .add .i64 (.t 21) (.c (.int .i64 1)), none⟩,
      ⟨(some 7), none, .mv false (.t 22), none⟩] (some [0, 1, 2, 7]))))))) (
.seq (.reg false [
  ⟨(some 6), none, .mv false (.c (.bool true)), none⟩] (some [6])) (
.ret))))
set_option maxRecDepth 1000000 in
theorem comp_ref63_Same : (Tryd.f12.body.bind fun code => compC Tryd.prog Tryd.f12.ntmps code c_ref63_Same) = some c_ref63_Same.bare := by kernel_rfl
def r_ref63_Same : List R := [.t 6]
theorem spo_ref63_Same {ds : List D} {d : D} (hn : Nat.ble ds.length 100 = true) (h : run TSpC gtab 0 c_ref63_Same (retK r_ref63_Same (· = d)) ⟨env0 0 ds, []⟩) : TSp 12 ds d := Sp_of mixed c_ref63_Same r_ref63_Same (fn := Tryd.f12) (by kernel_rfl) (by kernel_rfl) comp_ref63_Same (by kernel_rfl) hn h
theorem spm_ref63_Same {ds : List D} {d : D} {bx bx' : List Ent} (hn : Nat.ble ds.length 100 = true) (h : run TSpC gtab (sizeE bx) c_ref63_Same (retG r_ref63_Same (fun d1 bx1 => Rt (sizeE bx) bx1 d1 d bx')) ⟨env0 0 ds, bx⟩) : TSpM 12 ds bx d bx' := SpM_of mixed c_ref63_Same r_ref63_Same (fn := Tryd.f12) (by kernel_rfl) (by kernel_rfl) comp_ref63_Same (by kernel_rfl) hn h
/-- glazier/glazierlaw63.of -/
def c_law63_of : C := .seq (.reg false [
  ⟨(some 2), none, .nilS 54 4, none⟩] (some [0])) (
.seq (.reg false [
  ⟨(some 3), none, .nilS 54 4, none⟩] (some [0, 3])) (
.seq (.seq (.reg false [
  ⟨(some 4), none, .mv false (.c (.int .i64 0)), none⟩] (some [0, 3, 4])) (
.blk 0 (
  .loop (
    .seq (.seq (.reg false [
      ⟨(some 5), none, .mv false (.t 4), none⟩,
      ⟨(some 6), none, .mv false (.t 0), none⟩,
      ⟨(some 7), none, .len false (.t 6), none⟩,
      ⟨(some 8), none, .bin .lss .i64 (.t 5) (.t 7), none⟩] (some [0, 3, 4, 8])) (
    .ite (.t 8) (
      .skip) (
      .exit 0))) (
    .seq (.blk 1 (
      .reg false [
        ⟨(some 11), none, .mv false (.t 3), none⟩,
        ⟨(some 12), none, .mv false (.t 0), none⟩,
        ⟨(some 13), none, .mv false (.t 4), none⟩,
        ⟨(some 14), none, .ixs 4 (.t 12) (.t 13), none⟩,
        ⟨(some 15), none, .ld (some 4) (.t 14), none⟩,
        ⟨(some 16), none, .bsl none 54 4 (some 4) [(.t 15)], none⟩,
        ⟨(some 17), none, .app 54 4 64 (.t 11) (.t 16), none⟩,
        ⟨(some 3), none, .mv false (.t 17), none⟩] (some [0, 3, 4]))) (
    .reg false [
      ⟨(some 9), none, .mv false (.t 4), none⟩,
      ⟨(some 10), none, .bin .add .i64 (.t 9) (.c (.int .i64 1)), none⟩,
      ⟨(some 4), none, .mv false (.t 10), none⟩] (some [0, 3, 4]))))))) (
.seq (.reg false [
  ⟨(some 18), none, .mv false (.t 3), none⟩,
  ⟨(some 2), none, .mv false (.t 18), none⟩] (some [2])) (
.ret))))
set_option maxRecDepth 1000000 in
theorem comp_law63_of : (Tryd.f13.body.bind fun code => compC Tryd.prog Tryd.f13.ntmps code c_law63_of) = some c_law63_of.bare := by kernel_rfl
def r_law63_of : List R := [.t 2]
theorem spo_law63_of {ds : List D} {d : D} (hn : Nat.ble ds.length 19 = true) (h : run TSpC gtab 0 c_law63_of (retK r_law63_of (· = d)) ⟨env0 0 ds, []⟩) : TSp 13 ds d := Sp_of mixed c_law63_of r_law63_of (fn := Tryd.f13) (by kernel_rfl) (by kernel_rfl) comp_law63_of (by kernel_rfl) hn h
theorem spm_law63_of {ds : List D} {d : D} {bx bx' : List Ent} (hn : Nat.ble ds.length 19 = true) (h : run TSpC gtab (sizeE bx) c_law63_of (retG r_law63_of (fun d1 bx1 => Rt (sizeE bx) bx1 d1 d bx')) ⟨env0 0 ds, bx⟩) : TSpM 13 ds bx d bx' := SpM_of mixed c_law63_of r_law63_of (fn := Tryd.f13) (by kernel_rfl) (by kernel_rfl) comp_law63_of (by kernel_rfl) hn h
/-- glazier/glazierref63.Short -/
def c_ref63_Short : C := .seq (.reg false [
  ⟨(some 2), none, .mv false (.c (.bool false)), none⟩] (some [0])) (
.seq (.seq (.reg false [
  ⟨(some 3), none, .mv false (.c (.int .i64 0)), none⟩] (some [0, 3])) (
.blk 0 (
  .loop (
    .seq (.seq (.reg false [
      ⟨(some 5), none, .mv false (.t 3), none⟩,
      ⟨(some 6), none, .mv false (.t 0), none⟩,
      ⟨(some 7), none, .len false (.t 6), none⟩,
      ⟨(some 8), none, .bin .lss .i64 (.t 5) (.t 7), none⟩,
      ⟨(some 9), none, .mv false (.t 8), none⟩,
      ⟨(some 10), some (9, true), .mv false (.t 3), none⟩,
      ⟨(some 11), some (9, true), .bin .lss .i64 (.t 10) (.c (.int .i64 50)), none⟩,
      ⟨(some 12), none, .pick (.t 9) (.t 11) (.c (.bool false)), none⟩] (some [0, 3, 12])) (
    .ite (.t 12) (
      .skip) (
      .exit 0))) (
    .seq (.blk 1 (
      .seq (.seq (.reg false [
        ⟨(some 15), none, .mv false (.t 0), none⟩,
        ⟨(some 16), none, .mv false (.t 3), none⟩,
        ⟨(some 17), none, .ixs 4 (.t 15) (.t 16), none⟩,
        ⟨(some 18), none, .fld 2 (.t 17), none⟩,
        ⟨(some 19), none, .ld none (.t 18), none⟩,
        ⟨(some 20), none, .len false (.t 19), none⟩,
        ⟨(some 21), none, .bin .gtr .i64 (.t 20) (.c (.int .i64 120)), none⟩,
        ⟨(some 22), none, .mv false (.t 21), none⟩,
        ⟨(some 23), some (22, false), .mv false (.t 0), none⟩,
        ⟨(some 24), some (22, false), .mv false (.t 3), none⟩,
        ⟨(some 25), some (22, false), .ixs 4 (.t 23) (.t 24), none⟩,
        ⟨(some 26), some (22, false), .fld 3 (.t 25), none⟩,
        ⟨(some 27), some (22, false), .ld none (.t 26), none⟩,
        ⟨(some 28), some (22, false), .len false (.t 27), none⟩,
        ⟨(some 29), some (22, false), .bin .gtr .i64 (.t 28) (.c (.int .i64 5)), none⟩,
        ⟨(some 30), none, .pick (.t 22) (.c (.bool true)) (.t 29), none⟩] (some [0, 3, 30])) (
      .ite (.t 30) (
        .seq (.reg false [
          ⟨(some 2), none, .mv false (.c (.bool false)), none⟩] (some [2])) (
        .ret)) (
        .skip))) (
      .seq (.reg false [
        ⟨(some 4), none, .mv false (.c (.int .i64 0)), none⟩] (some [0, 3, 4])) (
      .blk 2 (
        .loop (
          .seq (.seq (.reg false [
            ⟨(some 31), none, .mv false (.t 4), none⟩,
            ⟨(some 32), none, .mv false (.t 0), none⟩,
            ⟨(some 33), none, .mv false (.t 3), none⟩,
            ⟨(some 34), none, .ixs 4 (.t 32) (.t 33), none⟩,
            ⟨(some 35), none, .fld 3 (.t 34), none⟩,
            ⟨(some 36), none, .ld none (.t 35), none⟩,
            ⟨(some 37), none, .len false (.t 36), none⟩,
            ⟨(some 38), none, .bin .lss .i64 (.t 31) (.t 37), none⟩] (some [0, 3, 4, 38])) (
          .ite (.t 38) (
            .skip) (
            .exit 2))) (
          .seq (.blk 3 (
            .seq (.reg false [
              ⟨(some 41), none, .mv false (.t 0), none⟩,
              ⟨(some 42), none, .mv false (.t 3), none⟩,
              ⟨(some 43), none, .ixs 4 (.t 41) (.t 42), none⟩,
              ⟨(some 44), none, .fld 3 (.t 43), none⟩,
              ⟨(some 45), none, .ld none (.t 44), none⟩,
              ⟨(some 46), none, .mv false (.t 4), none⟩,
              ⟨(some 47), none, .ixs 1 (.t 45) (.t 46), none⟩,
              ⟨(some 48), none, .ld none (.t 47), none⟩,
              ⟨(some 49), none, .len true (.t 48), none⟩,
              ⟨(some 50), none, .bin .gtr .i64 (.t 49) (.c (.int .i64 400)), none⟩] (some [0, 3, 4, 50])) (
            .ite (.t 50) (
              .seq (.reg false [
                ⟨(some 2), none, .mv false (.c (.bool false)), none⟩] (some [2])) (
              .ret)) (
              .skip)))) (
          .reg false [
            ⟨(some 39), none, .mv false (.t 4), none⟩,
            ⟨(some 40), none, .bin .add .i64 (.t 39) (.c (.int .i64 1)), none⟩,
            ⟨(some 4), none, .mv false (.t 40), none⟩] (some [0, 3, 4]))))))))) (
    .reg false [
      ⟨(some 13), none, .mv false (.t 3), none⟩,
      ⟨(some 14), none, .bin .add .i64 (.t 13) (.c (.int .i64 1)), none⟩,
      ⟨(some 3), none, .mv false (.t 14), none⟩] (some [0, 3]))))))) (
.seq (.reg false [
  ⟨(some 51), none, .mv false (.t 0), none⟩,
  ⟨(some 52), none, .len false (.t 51), none⟩,
  ⟨(some 53), none, .bin .leq .i64 (.t 52) (.c (.int .i64 50)), none⟩,
  ⟨(some 2), none, .mv false (.t 53), none⟩] (some [2])) (
.ret)))
set_option maxRecDepth 1000000 in
theorem comp_ref63_Short : (Tryd.f14.body.bind fun code => compC Tryd.prog Tryd.f14.ntmps code c_ref63_Short) = some c_ref63_Short.bare := by kernel_rfl
def r_ref63_Short : List R := [.t 2]
theorem spo_ref63_Short {ds : List D} {d : D} (hn : Nat.ble ds.length 54 = true) (h : run TSpC gtab 0 c_ref63_Short (retK r_ref63_Short (· = d)) ⟨env0 0 ds, []⟩) : TSp 14 ds d := Sp_of mixed c_ref63_Short r_ref63_Short (fn := Tryd.f14) (by kernel_rfl) (by kernel_rfl) comp_ref63_Short (by kernel_rfl) hn h
theorem spm_ref63_Short {ds : List D} {d : D} {bx bx' : List Ent} (hn : Nat.ble ds.length 54 = true) (h : run TSpC gtab (sizeE bx) c_ref63_Short (retG r_ref63_Short (fun d1 bx1 => Rt (sizeE bx) bx1 d1 d bx')) ⟨env0 0 ds, bx⟩) : TSpM 14 ds bx d bx' := SpM_of mixed c_ref63_Short r_ref63_Short (fn := Tryd.f14) (by kernel_rfl) (by kernel_rfl) comp_ref63_Short (by kernel_rfl) hn h
/-- glazier/script.Print -/
def c_script_Print : C := .seq (.reg false [
  ⟨(some 2), none, .mv false (.c (.str [])), none⟩,
  ⟨(some 3), none, .mv false (.c (.int .i64 0)), none⟩] (some [0])) (
.seq (.seq (.reg false [
  ⟨(some 8), none, .mv false (.t 0), none⟩,
  ⟨(some 9), none, .len false (.t 8), none⟩,
  ⟨(some 10), none, .bin .eql .i64 (.t 9) (.c (.int .i64 0)), none⟩] (some [0, 10])) (
.ite (.t 10) (
  .seq (.reg false [
    ⟨(some 2), none, .mv false (.c (.str [])), none⟩,
    ⟨(some 3), none, .mv false (.c (.int .i64 13)), none⟩] (some [2, 3])) (
  .ret)) (
  .skip))) (
.seq (.seq (.reg false [
  ⟨(some 11), none, .mv false (.t 0), none⟩,
  ⟨(some 12), none, .len false (.t 11), none⟩,
  ⟨(some 13), none, .bin .gtr .i64 (.t 12) (.c (.int .i64 1000)), none⟩] (some [0, 13])) (
.ite (.t 13) (
  .seq (.reg false [
    ⟨(some 2), none, .mv false (.c (.str [])), none⟩,
    ⟨(some 3), none, .mv false (.c (.int .i64 5)), none⟩] (some [2, 3])) (
  .ret)) (
  .skip))) (
.seq (.reg false [
  ⟨(some 4), none, .prm false true (.alc 60) [], none⟩] (some [0, 4])) (
.seq (.seq (.reg false [
  ⟨(some 14), none, .mv false (.t 0), none⟩,
  ⟨(some 15), none, .len false (.t 14), none⟩,
  ⟨(some 16), none, .mv false (.c (.int .i64 0)), none⟩] (some [4, 14, 15, 16])) (
.blk 0 (
  .loop (
    .seq (.reg false [
      ⟨(some 17), none, .bin .lss .i64 (.t 16) (.t 15), none⟩] (some [4, 14, 15, 16, 17])) (
    .seq (.ite (.t 17) (
      .skip) (
      .exit 0)) (
    .seq (.blk 1 (
      .seq (.reg false [
        ⟨(some 18), none, .mv false (.t 16), none⟩,
        ⟨(some 19), none, .ixs 4 (.t 14) (.t 16), none⟩,
        ⟨(some 20), none, .ld (some 4) (.t 19), none⟩,
        ⟨(some 6), none, .alloc [(.int .i64 0), (.int .i64 0), (.ls 1 []), (.ls 1 [])], none⟩,
        ⟨(some 5), none, .mv false (.t 18), none⟩,
        ⟨none, none, .st (some 4) (.t 6) (.t 20), none⟩] (some [4, 5, 6, 14, 15, 16])) (
      .seq (.seq (.reg false [
        ⟨(some 21), none, .fld 1 (.t 6), none⟩,
        ⟨(some 22), none, .ld none (.t 21), none⟩,
        ⟨(some 23), none, .bin .lss .i64 (.t 22) (.c (.int .i64 0)), none⟩,
        ⟨(some 24), none, .mv false (.t 23), none⟩,
        ⟨(some 25), some (24, false), .fld 1 (.t 6), none⟩,
        ⟨(some 26), some (24, false), .ld none (.t 25), none⟩,
        ⟨(some 27), some (24, false), .bin .geq .i64 (.t 26) (.c (.int .i64 16)), none⟩,
        ⟨(some 28), none, .pick (.t 24) (.c (.bool true)) (.t 27), none⟩] (some [4, 5, 6, 14, 15, 16, 28])) (
      .ite (.t 28) (
        .seq (.reg false [
          ⟨(some 2), none, .mv false (.c (.str [])), none⟩,
          ⟨(some 3), none, .mv false (.c (.int .i64 10)), none⟩] (some [2, 3])) (
        .ret)) (
        .skip))) (
      .seq (.seq (.reg false [
        ⟨(some 29), none, .ld (some 4) (.t 6), none⟩,
        ⟨(some 30), none, .call false 24 [(.t 29)], none⟩,
        ⟨(some 31), none, .not (.t 30), none⟩] (some [4, 5, 6, 14, 15, 16, 31])) (
      .ite (.t 31) (
        .seq (.reg false [
          ⟨(some 2), none, .mv false (.c (.str [])), none⟩,
          ⟨(some 3), none, .mv false (.c (.int .i64 2)), none⟩] (some [2, 3])) (
        .ret)) (
        .skip))) (
      .seq (.seq (.reg false [
        ⟨(some 32), none, .ld (some 4) (.t 6), none⟩,
        ⟨(some 33), none, .mv false (.t 5), none⟩,
        ⟨(some 34), none, .bin .eql .i64 (.t 33) (.c (.int .i64 0)), none⟩,
        ⟨(some 35), none, .call false 21 [(.t 32), (.t 34)], none⟩,
        ⟨(some 7), none, .mv false (.t 35), none⟩] (some [4, 6, 7, 14, 15, 16])) (
      .seq (.reg false [
        ⟨(some 36), none, .mv false (.t 7), none⟩,
        ⟨(some 37), none, .bin .neq .i64 (.t 36) (.c (.int .i64 0)), none⟩] (some [4, 6, 7, 14, 15, 16, 37])) (
      .ite (.t 37) (
        .seq (.reg false [
          ⟨(some 38), none, .mv false (.t 7), none⟩,
          ⟨(some 2), none, .mv false (.c (.str [])), none⟩,
          ⟨(some 3), none, .mv false (.t 38), none⟩] (some [2, 3])) (
        .ret)) (
        .skip)))) (
      .seq (.reg false [
        ⟨(some 39), none, .ld (some 4) (.t 6), none⟩,
        ⟨(some 40), none, .call false 26 [(.t 39)], none⟩,
        ⟨(some 41), none, .call true 25 [(.t 4), (.t 40)], none⟩] (some [4, 14, 15, 16])) (
      .reg false [
        ⟨(some 42), none, .call true 27 [(.t 4), (.c (.int .u8 10))], none⟩] (some [4, 14, 15, 16])))))))) (
    .reg false [
      ⟨(some 43), none, .bin .add .i64 (.t 16) (.c (.int .i64 1)), none⟩,
      ⟨(some 16), none, .mv false (.t 43), none⟩] (some [4, 14, 15, 16])))))))) (
.seq (.seq (.reg false [
  ⟨(some 44), none, .call true 28 [(.t 4)], none⟩,
  ⟨(some 45), none, .bin .gtr .i64 (.t 44) (.c (.int .i64 65536)), none⟩] (some [4, 45])) (
.ite (.t 45) (
  .seq (.reg false [
    ⟨(some 2), none, .mv false (.c (.str [])), none⟩,
    ⟨(some 3), none, .mv false (.c (.int .i64 4)), none⟩] (some [2, 3])) (
  .ret)) (
  .skip))) (
.seq (.reg false [
  ⟨(some 46), none, .call true 29 [(.t 4)], none⟩,
  ⟨(some 2), none, .mv false (.t 46), none⟩,
  ⟨(some 3), none, .mv false (.c (.int .i64 0)), none⟩] (some [2, 3])) (
.ret)))))))
set_option maxRecDepth 1000000 in
theorem comp_script_Print : (Tryd.f15.body.bind fun code => compC Tryd.prog Tryd.f15.ntmps code c_script_Print) = some c_script_Print.bare := by kernel_rfl
def r_script_Print : List R := [.t 2, .t 3]
theorem spo_script_Print {ds : List D} {d : D} (hn : Nat.ble ds.length 47 = true) (h : run TSpC gtab 0 c_script_Print (retK r_script_Print (· = d)) ⟨env0 0 ds, []⟩) : TSp 15 ds d := Sp_of mixed c_script_Print r_script_Print (fn := Tryd.f15) (by kernel_rfl) (by kernel_rfl) comp_script_Print (by kernel_rfl) hn h
theorem spm_script_Print {ds : List D} {d : D} {bx bx' : List Ent} (hn : Nat.ble ds.length 47 = true) (h : run TSpC gtab (sizeE bx) c_script_Print (retG r_script_Print (fun d1 bx1 => Rt (sizeE bx) bx1 d1 d bx')) ⟨env0 0 ds, bx⟩) : TSpM 15 ds bx d bx' := SpM_of mixed c_script_Print r_script_Print (fn := Tryd.f15) (by kernel_rfl) (by kernel_rfl) comp_script_Print (by kernel_rfl) hn h
/-- glazier/glazierref63.Print -/
def c_ref63_Print : C := .seq (.reg false [
  ⟨(some 2), none, .mv false (.c (.str [])), none⟩,
  ⟨(some 3), none, .mv false (.c (.int .i64 0)), none⟩] (some [0])) (
.seq (.seq (.reg false [
  ⟨(some 7), none, .mv false (.t 0), none⟩,
  ⟨(some 8), none, .len false (.t 7), none⟩,
  ⟨(some 9), none, .bin .eql .i64 (.t 8) (.c (.int .i64 0)), none⟩] (some [0, 9])) (
.ite (.t 9) (
  .seq (.reg false [
    ⟨(some 2), none, .mv false (.c (.str [])), none⟩,
    ⟨(some 3), none, .mv false (.c (.int .i64 13)), none⟩] (some [2, 3])) (
  .ret)) (
  .skip))) (
.seq (.seq (.reg false [
  ⟨(some 10), none, .mv false (.t 0), none⟩,
  ⟨(some 11), none, .len false (.t 10), none⟩,
  ⟨(some 12), none, .bin .gtr .i64 (.t 11) (.c (.int .i64 1000)), none⟩] (some [0, 12])) (
.ite (.t 12) (
  .seq (.reg false [
    ⟨(some 2), none, .mv false (.c (.str [])), none⟩,
    ⟨(some 3), none, .mv false (.c (.int .i64 5)), none⟩] (some [2, 3])) (
  .ret)) (
  .skip))) (
.seq (.reg false [
  ⟨(some 4), none, .nilS 5 1, none⟩] (some [0, 4])) (
.seq (.seq (.reg false [
  ⟨(some 5), none, .mv false (.c (.int .i64 0)), none⟩] (some [0, 4, 5])) (
.blk 0 (
  .loop (
    .seq (.seq (.reg false [
      ⟨(some 13), none, .mv false (.t 5), none⟩,
      ⟨(some 14), none, .mv false (.t 0), none⟩,
      ⟨(some 15), none, .len false (.t 14), none⟩,
      ⟨(some 16), none, .bin .lss .i64 (.t 13) (.t 15), none⟩] (some [0, 4, 5, 16])) (
    .ite (.t 16) (
      .skip) (
      .exit 0))) (
    .seq (.blk 1 (
      .seq (.reg false [
        ⟨(some 19), none, .mv false (.t 0), none⟩,
        ⟨(some 20), none, .mv false (.t 5), none⟩,
        ⟨(some 21), none, .ixs 4 (.t 19) (.t 20), none⟩,
        ⟨(some 22), none, .ld (some 4) (.t 21), none⟩,
        ⟨(some 6), none, .alloc [(.int .i64 0), (.int .i64 0), (.ls 1 []), (.ls 1 [])], none⟩,
        ⟨none, none, .st (some 4) (.t 6) (.t 22), none⟩] (some [0, 4, 5, 6])) (
      .seq (.seq (.reg false [
        ⟨(some 23), none, .fld 1 (.t 6), none⟩,
        ⟨(some 24), none, .ld none (.t 23), none⟩,
        ⟨(some 25), none, .bin .lss .i64 (.t 24) (.c (.int .i64 0)), none⟩,
        ⟨(some 26), none, .mv false (.t 25), none⟩,
        ⟨(some 27), some (26, false), .fld 1 (.t 6), none⟩,
        ⟨(some 28), some (26, false), .ld none (.t 27), none⟩,
        ⟨(some 29), some (26, false), .bin .gtr .i64 (.t 28) (.c (.int .i64 15)), none⟩,
        ⟨(some 30), none, .pick (.t 26) (.c (.bool true)) (.t 29), none⟩] (some [0, 4, 5, 6, 30])) (
      .ite (.t 30) (
        .seq (.reg false [
          ⟨(some 2), none, .mv false (.c (.str [])), none⟩,
          ⟨(some 3), none, .mv false (.c (.int .i64 10)), none⟩] (some [2, 3])) (
        .ret)) (
        .skip))) (
      .seq (.seq (.reg false [
        ⟨(some 31), none, .ld (some 4) (.t 6), none⟩,
        ⟨(some 32), none, .call false 30 [(.t 31)], none⟩,
        ⟨(some 33), none, .not (.t 32), none⟩] (some [0, 4, 5, 6, 33])) (
      .ite (.t 33) (
        .seq (.reg false [
          ⟨(some 2), none, .mv false (.c (.str [])), none⟩,
          ⟨(some 3), none, .mv false (.c (.int .i64 2)), none⟩] (some [2, 3])) (
        .ret)) (
        .skip))) (
      .seq (.seq (.reg false [
        ⟨(some 34), none, .ld (some 4) (.t 6), none⟩,
        ⟨(some 35), none, .call false 31 [(.t 34)], none⟩,
        ⟨(some 36), none, .not (.t 35), none⟩] (some [0, 4, 5, 6, 36])) (
      .ite (.t 36) (
        .seq (.reg false [
          ⟨(some 2), none, .mv false (.c (.str [])), none⟩,
          ⟨(some 3), none, .mv false (.c (.int .i64 1)), none⟩] (some [2, 3])) (
        .ret)) (
        .skip))) (
      .seq (.seq (.reg false [
        ⟨(some 37), none, .fld 1 (.t 6), none⟩,
        ⟨(some 38), none, .ld none (.t 37), none⟩,
        ⟨(some 39), none, .bin .eql .i64 (.t 38) (.c (.int .i64 0)), none⟩,
        ⟨(some 40), none, .mv false (.t 5), none⟩,
        ⟨(some 41), none, .bin .eql .i64 (.t 40) (.c (.int .i64 0)), none⟩,
        ⟨(some 42), none, .eqb true false (.t 39) (.t 41), none⟩] (some [0, 4, 5, 6, 42])) (
      .ite (.t 42) (
        .seq (.reg false [
          ⟨(some 2), none, .mv false (.c (.str [])), none⟩,
          ⟨(some 3), none, .mv false (.c (.int .i64 8)), none⟩] (some [2, 3])) (
        .ret)) (
        .skip))) (
      .reg false [
        ⟨(some 43), none, .mv false (.t 4), none⟩,
        ⟨(some 44), none, .ld (some 4) (.t 6), none⟩,
        ⟨(some 45), none, .call false 32 [(.t 44)], none⟩,
        ⟨(some 46), none, .prm false true (.aps 58 9) [(.t 43), (.t 45)], none⟩,
        ⟨(some 4), none, .mv false (.t 46), none⟩] (some [0, 4, 5])))))))) (
    .reg false [
      ⟨(some 17), none, .mv false (.t 5), none⟩,
      ⟨(some 18), none, .bin .add .i64 (.t 17) (.c (.int .i64 1)), none⟩,
      ⟨(some 5), none, .mv false (.t 18), none⟩] (some [0, 4, 5]))))))) (
.seq (.seq (.reg false [
  ⟨(some 47), none, .mv false (.t 4), none⟩,
  ⟨(some 48), none, .len false (.t 47), none⟩,
  ⟨(some 49), none, .bin .gtr .i64 (.t 48) (.c (.int .i64 65536)), none⟩] (some [4, 49])) (
.ite (.t 49) (
  .seq (.reg false [
    ⟨(some 2), none, .mv false (.c (.str [])), none⟩,
    ⟨(some 3), none, .mv false (.c (.int .i64 4)), none⟩] (some [2, 3])) (
  .ret)) (
  .skip))) (
.seq (.reg false [
  ⟨(some 50), none, .mv false (.t 4), none⟩,
  ⟨(some 51), none, .b2s (.t 50), none⟩,
  ⟨(some 2), none, .mv false (.t 51), none⟩,
  ⟨(some 3), none, .mv false (.c (.int .i64 0)), none⟩] (some [2, 3])) (
.ret)))))))
set_option maxRecDepth 1000000 in
theorem comp_ref63_Print : (Tryd.f16.body.bind fun code => compC Tryd.prog Tryd.f16.ntmps code c_ref63_Print) = some c_ref63_Print.bare := by kernel_rfl
def r_ref63_Print : List R := [.t 2, .t 3]
theorem spo_ref63_Print {ds : List D} {d : D} (hn : Nat.ble ds.length 52 = true) (h : run TSpC gtab 0 c_ref63_Print (retK r_ref63_Print (· = d)) ⟨env0 0 ds, []⟩) : TSp 16 ds d := Sp_of mixed c_ref63_Print r_ref63_Print (fn := Tryd.f16) (by kernel_rfl) (by kernel_rfl) comp_ref63_Print (by kernel_rfl) hn h
theorem spm_ref63_Print {ds : List D} {d : D} {bx bx' : List Ent} (hn : Nat.ble ds.length 52 = true) (h : run TSpC gtab (sizeE bx) c_ref63_Print (retG r_ref63_Print (fun d1 bx1 => Rt (sizeE bx) bx1 d1 d bx')) ⟨env0 0 ds, bx⟩) : TSpM 16 ds bx d bx' := SpM_of mixed c_ref63_Print r_ref63_Print (fn := Tryd.f16) (by kernel_rfl) (by kernel_rfl) comp_ref63_Print (by kernel_rfl) hn h
/-- glazier/script.Name -/
def c_script_Name : C := .seq (.reg false [
  ⟨(some 2), none, .mv false (.c (.str [])), none⟩] (some [0])) (
.seq (.seq (.reg false [
  ⟨(some 3), none, .mv false (.t 0), none⟩,
  ⟨(some 4), none, .bin .lss .i64 (.t 3) (.c (.int .i64 0)), none⟩,
  ⟨(some 5), none, .mv false (.t 4), none⟩,
  ⟨(some 6), some (5, false), .mv false (.t 0), none⟩,
  ⟨(some 7), some (5, false), .bin .geq .i64 (.t 6) (.c (.int .i64 16)), none⟩,
  ⟨(some 8), none, .pick (.t 5) (.c (.bool true)) (.t 7), none⟩] (some [0, 8])) (
.ite (.t 8) (
  .seq (.reg false [
    ⟨(some 2), none, .mv false (.c (.str [])), none⟩] (some [2])) (
  .ret)) (
  .skip))) (
.seq (.reg false [
  ⟨(some 9), none, .mv false (.t 0), none⟩,
  ⟨(some 10), none, .ixa 16 5 (.c (.glob 0 0)) (.t 9), none⟩,
  ⟨(some 11), none, .fld 0 (.t 10), none⟩,
  ⟨(some 12), none, .ld none (.t 11), none⟩,
  ⟨(some 2), none, .mv false (.t 12), none⟩] (some [2])) (
.ret)))
set_option maxRecDepth 1000000 in
theorem comp_script_Name : (Tryd.f17.body.bind fun code => compC Tryd.prog Tryd.f17.ntmps code c_script_Name) = some c_script_Name.bare := by kernel_rfl
def r_script_Name : List R := [.t 2]
theorem spo_script_Name {ds : List D} {d : D} (hn : Nat.ble ds.length 13 = true) (h : run TSpC gtab 0 c_script_Name (retK r_script_Name (· = d)) ⟨env0 0 ds, []⟩) : TSp 17 ds d := Sp_of mixed c_script_Name r_script_Name (fn := Tryd.f17) (by kernel_rfl) (by kernel_rfl) comp_script_Name (by kernel_rfl) hn h
theorem spm_script_Name {ds : List D} {d : D} {bx bx' : List Ent} (hn : Nat.ble ds.length 13 = true) (h : run TSpC gtab (sizeE bx) c_script_Name (retG r_script_Name (fun d1 bx1 => Rt (sizeE bx) bx1 d1 d bx')) ⟨env0 0 ds, bx⟩) : TSpM 17 ds bx d bx' := SpM_of mixed c_script_Name r_script_Name (fn := Tryd.f17) (by kernel_rfl) (by kernel_rfl) comp_script_Name (by kernel_rfl) hn h
/-- glazier/glazierref63.Names -/
def c_ref63_Names : C := .seq (.reg false [
  ⟨(some 0), none, .nilS 9 1, none⟩] (some [])) (
.seq (.reg false [
  ⟨(some 1), none, .bsl none 9 1 none [(.c (.str [115, 99, 114, 101, 101, 110])), (.c (.str [106, 111, 105, 110])), (.c (.str [97, 115, 107])), (.c (.str [115, 97, 121])), (.c (.str [114, 111, 119])), (.c (.str [98, 121, 116, 101, 115])), (.c (.str [116, 117, 114, 110])), (.c (.str [105, 110, 112, 117, 116])), (.c (.str [104, 97, 110, 103])), (.c (.str [115, 104, 111, 119])), (.c (.str [114, 101, 97, 100])), (.c (.str [116, 101, 120, 116])), (.c (.str [119, 114, 105, 116, 101])), (.c (.str [108, 111, 115, 101])), (.c (.str [99, 97, 108, 109])), (.c (.str [97, 117, 100, 105, 116]))], none⟩,
  ⟨(some 0), none, .mv false (.t 1), none⟩] (some [0])) (
.ret))
set_option maxRecDepth 1000000 in
theorem comp_ref63_Names : (Tryd.f18.body.bind fun code => compC Tryd.prog Tryd.f18.ntmps code c_ref63_Names) = some c_ref63_Names.bare := by kernel_rfl
def r_ref63_Names : List R := [.t 0]
theorem spo_ref63_Names {ds : List D} {d : D} (hn : Nat.ble ds.length 2 = true) (h : run TSpC gtab 0 c_ref63_Names (retK r_ref63_Names (· = d)) ⟨env0 0 ds, []⟩) : TSp 18 ds d := Sp_of mixed c_ref63_Names r_ref63_Names (fn := Tryd.f18) (by kernel_rfl) (by kernel_rfl) comp_ref63_Names (by kernel_rfl) hn h
theorem spm_ref63_Names {ds : List D} {d : D} {bx bx' : List Ent} (hn : Nat.ble ds.length 2 = true) (h : run TSpC gtab (sizeE bx) c_ref63_Names (retG r_ref63_Names (fun d1 bx1 => Rt (sizeE bx) bx1 d1 d bx')) ⟨env0 0 ds, bx⟩) : TSpM 18 ds bx d bx' := SpM_of mixed c_ref63_Names r_ref63_Names (fn := Tryd.f18) (by kernel_rfl) (by kernel_rfl) comp_ref63_Names (by kernel_rfl) hn h
/-- strings.Split -/
def c_strings_Split : C := .seq (.reg false [
  ⟨(some 4), none, .nilS 9 1, none⟩] (some [0, 1])) (
.seq (.reg false [
  ⟨(some 5), none, .mv false (.t 0), none⟩,
  ⟨(some 6), none, .mv false (.t 1), none⟩,
  ⟨(some 7), none, .call false 33 [(.t 5), (.t 6), (.c (.int .i64 0)), (.c (.int .i64 (-1)))], none⟩,
  ⟨(some 4), none, .mv false (.t 7), none⟩] (some [4])) (
.ret))
set_option maxRecDepth 1000000 in
theorem comp_strings_Split : (Tryd.f19.body.bind fun code => compC Tryd.prog Tryd.f19.ntmps code c_strings_Split) = some c_strings_Split.bare := by kernel_rfl
def r_strings_Split : List R := [.t 4]
theorem spo_strings_Split {ds : List D} {d : D} (hn : Nat.ble ds.length 8 = true) (h : run TSpC gtab 0 c_strings_Split (retK r_strings_Split (· = d)) ⟨env0 0 ds, []⟩) : TSp 19 ds d := Sp_of mixed c_strings_Split r_strings_Split (fn := Tryd.f19) (by kernel_rfl) (by kernel_rfl) comp_strings_Split (by kernel_rfl) hn h
theorem spm_strings_Split {ds : List D} {d : D} {bx bx' : List Ent} (hn : Nat.ble ds.length 8 = true) (h : run TSpC gtab (sizeE bx) c_strings_Split (retG r_strings_Split (fun d1 bx1 => Rt (sizeE bx) bx1 d1 d bx')) ⟨env0 0 ds, bx⟩) : TSpM 19 ds bx d bx' := SpM_of mixed c_strings_Split r_strings_Split (fn := Tryd.f19) (by kernel_rfl) (by kernel_rfl) comp_strings_Split (by kernel_rfl) hn h
/-- glazier/script.read -/
def c_script_read : C := .seq (.reg false [
  ⟨(some 2), none, .alloc [(.int .i64 0), (.int .i64 0), (.ls 1 []), (.ls 1 [])], none⟩,
  ⟨(some 3), none, .mv false (.c (.int .i64 0)), none⟩] (some [0, 2])) (
.seq (.reg false [
  ⟨(some 12), none, .mv false (.t 0), none⟩,
  ⟨(some 13), none, .call false 19 [(.t 12), (.c (.str [32]))], none⟩,
  ⟨(some 4), none, .mv false (.t 13), none⟩] (some [2, 4])) (
.seq (.reg false [
  ⟨(some 15), none, .mv false (.t 4), none⟩,
  ⟨(some 16), none, .ixs 1 (.t 15) (.c (.int .i64 0)), none⟩,
  ⟨(some 17), none, .ld none (.t 16), none⟩,
  ⟨(some 18), none, .call false 34 [(.t 17)], none⟩,
  ⟨(some 14), none, .mv false (.t 18), none⟩,
  ⟨(some 19), none, .ext (.t 14) 0, none⟩,
  ⟨(some 20), none, .ext (.t 14) 1, none⟩,
  ⟨(some 5), none, .mv false (.t 19), none⟩,
  ⟨(some 6), none, .mv false (.t 20), none⟩] (some [2, 4, 5, 6])) (
.seq (.seq (.reg false [
  ⟨(some 21), none, .mv false (.t 6), none⟩,
  ⟨(some 22), none, .not (.t 21), none⟩] (some [2, 4, 5, 22])) (
.ite (.t 22) (
  .seq (.reg false [
    ⟨(some 23), none, .bld [(.int .i64 0), (.int .i64 0), (.ls 1 []), (.ls 1 [])] [], none⟩,
    ⟨none, none, .st (some 4) (.t 2) (.t 23), none⟩,
    ⟨(some 3), none, .mv false (.c (.int .i64 11)), none⟩] (some [2, 3])) (
  .ret)) (
  .skip))) (
.seq (.reg false [
  ⟨(some 24), none, .mv false (.t 5), none⟩,
  ⟨(some 25), none, .prm false true (.blt 42 1) [(.t 24)], none⟩,
  ⟨(some 7), none, .alloc [(.int .i64 0), (.int .i64 0), (.ls 1 []), (.ls 1 [])], none⟩,
  ⟨none, none, .st (some 4) (.t 7) (.t 25), none⟩] (some [2, 4, 5, 7])) (
.seq (.seq (.reg false [
  ⟨(some 26), none, .mv false (.t 4), none⟩,
  ⟨(some 27), none, .sls false 1 (.t 26) (some (.c (.int .i64 1))) none, none⟩,
  ⟨(some 28), none, .len false (.t 27), none⟩,
  ⟨(some 29), none, .mv false (.c (.int .i64 0)), none⟩] (some [2, 5, 7, 27, 28, 29])) (
.blk 0 (
  .loop (
    .seq (.reg false [
      ⟨(some 30), none, .bin .lss .i64 (.t 29) (.t 28), none⟩] (some [2, 5, 7, 27, 28, 29, 30])) (
    .seq (.ite (.t 30) (
      .skip) (
      .exit 0)) (
    .seq (.blk 1 (
      .seq (.reg false [
        ⟨(some 31), none, .mv false (.t 29), none⟩,
        ⟨(some 32), none, .ixs 1 (.t 27) (.t 29), none⟩,
        ⟨(some 33), none, .ld none (.t 32), none⟩,
        ⟨(some 8), none, .mv false (.t 31), none⟩,
        ⟨(some 9), none, .mv false (.t 33), none⟩] (some [2, 5, 7, 8, 9, 27, 28, 29])) (
      .seq (.seq (.reg false [
        ⟨(some 34), none, .mv false (.t 5), none⟩,
        ⟨(some 35), none, .ixa 16 5 (.c (.glob 0 0)) (.t 34), none⟩,
        ⟨(some 36), none, .fld 3 (.t 35), none⟩,
        ⟨(some 37), none, .ld none (.t 36), none⟩,
        ⟨(some 38), none, .bin .neq .i64 (.t 37) (.c (.int .i64 0)), none⟩,
        ⟨(some 39), none, .mv false (.t 38), none⟩,
        ⟨(some 40), some (39, true), .mv false (.t 8), none⟩,
        ⟨(some 41), some (39, true), .mv false (.t 5), none⟩,
        ⟨(some 42), some (39, true), .ixa 16 5 (.c (.glob 0 0)) (.t 41), none⟩,
        ⟨(some 43), some (39, true), .fld 4 (.t 42), none⟩,
        ⟨(some 44), some (39, true), .ld none (.t 43), none⟩,
        ⟨(some 45), some (39, true), .bin .eql .i64 (.t 40) (.t 44), none⟩,
        ⟨(some 46), none, .pick (.t 39) (.t 45) (.c (.bool false)), none⟩] (some [2, 5, 7, 9, 27, 28, 29, 46])) (
      .ite (.t 46) (
        .seq (.reg false [
          ⟨(some 47), none, .mv false (.t 9), none⟩,
          ⟨(some 48), none, .call false 35 [(.t 47)], none⟩,
          ⟨(some 49), none, .bsl none 9 1 none [(.t 48)], none⟩,
          ⟨(some 50), none, .fld 3 (.t 7), none⟩,
          ⟨none, none, .st none (.t 50) (.t 49), none⟩] (some [2, 5, 7, 27, 28, 29])) (
        .exit 1)) (
        .skip))) (
      .seq (.reg false [
        ⟨(some 52), none, .mv false (.t 9), none⟩,
        ⟨(some 53), none, .call false 36 [(.t 52)], none⟩,
        ⟨(some 51), none, .mv false (.t 53), none⟩,
        ⟨(some 54), none, .ext (.t 51) 0, none⟩,
        ⟨(some 55), none, .ext (.t 51) 1, none⟩,
        ⟨(some 10), none, .mv false (.t 54), none⟩,
        ⟨(some 11), none, .mv false (.t 55), none⟩] (some [2, 5, 7, 10, 11, 27, 28, 29])) (
      .seq (.seq (.reg false [
        ⟨(some 56), none, .mv false (.t 11), none⟩,
        ⟨(some 57), none, .not (.t 56), none⟩] (some [2, 5, 7, 10, 27, 28, 29, 57])) (
      .ite (.t 57) (
        .seq (.reg false [
          ⟨(some 58), none, .bld [(.int .i64 0), (.int .i64 0), (.ls 1 []), (.ls 1 [])] [], none⟩,
          ⟨none, none, .st (some 4) (.t 2) (.t 58), none⟩,
          ⟨(some 3), none, .mv false (.c (.int .i64 2)), none⟩] (some [2, 3])) (
        .ret)) (
        .skip))) (
      .reg false [
        ⟨(some 59), none, .fld 2 (.t 7), none⟩,
        ⟨(some 60), none, .ld none (.t 59), none⟩,
        ⟨(some 61), none, .mv false (.t 10), none⟩,
        ⟨(some 62), none, .bsl none 2 1 none [(.t 61)], none⟩,
        ⟨(some 63), none, .app 2 1 8 (.t 60) (.t 62), none⟩,
        ⟨(some 64), none, .fld 2 (.t 7), none⟩,
        ⟨none, none, .st none (.t 64) (.t 63), none⟩] (some [2, 5, 7, 27, 28, 29]))))))) (
    .reg false [
      ⟨(some 65), none, .bin .add .i64 (.t 29) (.c (.int .i64 1)), none⟩,
      ⟨(some 29), none, .mv false (.t 65), none⟩] (some [2, 5, 7, 27, 28, 29])))))))) (
.seq (.seq (.reg false [
  ⟨(some 66), none, .ld (some 4) (.t 7), none⟩,
  ⟨(some 67), none, .call false 24 [(.t 66)], none⟩,
  ⟨(some 68), none, .not (.t 67), none⟩] (some [2, 7, 68])) (
.ite (.t 68) (
  .seq (.reg false [
    ⟨(some 69), none, .bld [(.int .i64 0), (.int .i64 0), (.ls 1 []), (.ls 1 [])] [], none⟩,
    ⟨none, none, .st (some 4) (.t 2) (.t 69), none⟩,
    ⟨(some 3), none, .mv false (.c (.int .i64 2)), none⟩] (some [2, 3])) (
  .ret)) (
  .skip))) (
.seq (.reg false [
  ⟨(some 70), none, .ld (some 4) (.t 7), none⟩,
  ⟨none, none, .st (some 4) (.t 2) (.t 70), none⟩,
  ⟨(some 3), none, .mv false (.c (.int .i64 0)), none⟩] (some [2, 3])) (
.ret))))))))
set_option maxRecDepth 1000000 in
theorem comp_script_read : (Tryd.f20.body.bind fun code => compC Tryd.prog Tryd.f20.ntmps code c_script_read) = some c_script_read.bare := by kernel_rfl
def r_script_read : List R := [.cell 2 (some 4), .t 3]
theorem spo_script_read {ds : List D} {d : D} (hn : Nat.ble ds.length 71 = true) (h : run TSpC gtab 0 c_script_read (retK r_script_read (· = d)) ⟨env0 0 ds, []⟩) : TSp 20 ds d := Sp_of mixed c_script_read r_script_read (fn := Tryd.f20) (by kernel_rfl) (by kernel_rfl) comp_script_read (by kernel_rfl) hn h
theorem spm_script_read {ds : List D} {d : D} {bx bx' : List Ent} (hn : Nat.ble ds.length 71 = true) (h : run TSpC gtab (sizeE bx) c_script_read (retG r_script_read (fun d1 bx1 => Rt (sizeE bx) bx1 d1 d bx')) ⟨env0 0 ds, bx⟩) : TSpM 20 ds bx d bx' := SpM_of mixed c_script_read r_script_read (fn := Tryd.f20) (by kernel_rfl) (by kernel_rfl) comp_script_read (by kernel_rfl) hn h
/-- (glazier/script.Command).check -/
def c_script_Command_check : C := .seq (.reg false [
  ⟨(some 2), none, .box true (.t 0), none⟩,
  ⟨(some 4), none, .mv false (.c (.int .i64 0)), none⟩] (some [1, 2])) (
.seq (.reg false [
  ⟨(some 9), none, .fld 1 (.t 2), none⟩,
  ⟨(some 10), none, .ld none (.t 9), none⟩,
  ⟨(some 11), none, .call false 37 [(.t 10)], none⟩,
  ⟨(some 5), none, .mv false (.t 11), none⟩] (some [1, 2, 5])) (
.seq (.seq (.reg false [
  ⟨(some 12), none, .fld 2 (.t 2), none⟩,
  ⟨(some 13), none, .ld none (.t 12), none⟩,
  ⟨(some 14), none, .len false (.t 13), none⟩,
  ⟨(some 15), none, .mv false (.c (.int .i64 0)), none⟩] (some [1, 2, 5, 13, 14, 15])) (
.blk 0 (
  .loop (
    .seq (.reg false [
      ⟨(some 16), none, .bin .lss .i64 (.t 15) (.t 14), none⟩] (some [1, 2, 5, 13, 14, 15, 16])) (
    .seq (.ite (.t 16) (
      .skip) (
      .exit 0)) (
    .seq (.blk 1 (
      .seq (.reg false [
        ⟨(some 17), none, .mv false (.t 15), none⟩,
        ⟨(some 18), none, .ixs 1 (.t 13) (.t 15), none⟩,
        ⟨(some 19), none, .ld none (.t 18), none⟩,
        ⟨(some 6), none, .mv false (.t 17), none⟩,
        ⟨(some 7), none, .mv false (.t 19), none⟩] (some [1, 2, 5, 6, 7, 13, 14, 15])) (
      .seq (.reg false [
        ⟨(some 20), none, .bld [(.int .i64 0), (.int .i64 0)] [(0, none, (.c (.int .i64 (-2147483648)))), (1, none, (.c (.int .i64 4294967295)))], none⟩,
        ⟨(some 8), none, .alloc [(.int .i64 0), (.int .i64 0)], none⟩,
        ⟨none, none, .st (some 2) (.t 8) (.t 20), none⟩] (some [1, 2, 5, 6, 7, 8, 13, 14, 15])) (
      .seq (.seq (.reg false [
        ⟨(some 21), none, .mv false (.t 6), none⟩,
        ⟨(some 22), none, .mv false (.t 5), none⟩,
        ⟨(some 23), none, .len false (.t 22), none⟩,
        ⟨(some 24), none, .bin .lss .i64 (.t 21) (.t 23), none⟩] (some [1, 2, 5, 6, 7, 8, 13, 14, 15, 24])) (
      .ite (.t 24) (
        .reg false [
          ⟨(some 25), none, .mv false (.t 5), none⟩,
          ⟨(some 26), none, .mv false (.t 6), none⟩,
          ⟨(some 27), none, .ixs 2 (.t 25) (.t 26), none⟩,
          ⟨(some 28), none, .ld (some 2) (.t 27), none⟩,
          ⟨none, none, .st (some 2) (.t 8) (.t 28), none⟩] (some [1, 2, 5, 7, 8, 13, 14, 15])) (
        .skip))) (
      .seq (.reg false [
        ⟨(some 29), none, .mv false (.t 7), none⟩,
        ⟨(some 30), none, .fld 0 (.t 8), none⟩,
        ⟨(some 31), none, .ld none (.t 30), none⟩,
        ⟨(some 32), none, .bin .lss .i64 (.t 29) (.t 31), none⟩,
        ⟨(some 33), none, .mv false (.t 32), none⟩,
        ⟨(some 34), some (33, false), .mv false (.t 7), none⟩,
        ⟨(some 35), some (33, false), .fld 1 (.t 8), none⟩,
        ⟨(some 36), some (33, false), .ld none (.t 35), none⟩,
        ⟨(some 37), some (33, false), .bin .gtr .i64 (.t 34) (.t 36), none⟩,
        ⟨(some 38), none, .pick (.t 33) (.c (.bool true)) (.t 37), none⟩] (some [1, 2, 5, 13, 14, 15, 38])) (
      .ite (.t 38) (
        .seq (.reg false [
          ⟨(some 4), none, .mv false (.c (.int .i64 1)), none⟩] (some [4])) (
        .ret)) (
        .skip))))))) (
    .reg false [
      ⟨(some 39), none, .bin .add .i64 (.t 15) (.c (.int .i64 1)), none⟩,
      ⟨(some 15), none, .mv false (.t 39), none⟩] (some [1, 2, 5, 13, 14, 15])))))))) (
.seq (.seq (.reg true [
  ⟨(some 40), none, .fld 1 (.t 2), none⟩,
  ⟨(some 41), none, .ld none (.t 40), none⟩,
  ⟨(some 42), none, .bin .eql .i64 (.t 41) (.c (.int .i64 4)), none⟩,
  ⟨(some 43), none, .mv false (.t 42), none⟩,
  ⟨(some 44), some (43, true), .fld 2 (.t 2), none⟩,
  ⟨(some 45), some (43, true), .ld none (.t 44), none⟩,
  ⟨(some 46), some (43, true), .ixs 1 (.t 45) (.c (.int .i64 2)), none⟩,
  ⟨(some 47), some (43, true), .ld none (.t 46), none⟩,
  ⟨(some 48), some (43, true), .bin .lss .i64 (.t 47) (.c (.int .i64 0)), none⟩,
  ⟨(some 49), some (43, true), .mv false (.t 48), none⟩,
  ⟨(some 50), some (49, false), .fld 2 (.t 2), none⟩,
  ⟨(some 51), some (49, false), .ld none (.t 50), none⟩,
  ⟨(some 52), some (49, false), .ixs 1 (.t 51) (.c (.int .i64 2)), none⟩,
  ⟨(some 53), some (49, false), .ld none (.t 52), none⟩,
  ⟨(some 54), some (49, false), .fld 2 (.t 2), none⟩,
  ⟨(some 55), some (49, false), .ld none (.t 54), none⟩,
  ⟨(some 56), some (49, false), .len false (.t 55), none⟩,
  ⟨(some 57), some (49, false), .bin .sub .i64 (.t 56) (.c (.int .i64 3)), none⟩,
  ⟨(some 58), some (49, false), .bin .gtr .i64 (.t 53) (.t 57), none⟩,
  ⟨(some 59), some (43, true), .pick (.t 49) (.c (.bool true)) (.t 58), none⟩,
  ⟨(some 60), none, .pick (.t 43) (.t 59) (.c (.bool false)), none⟩] (some [1, 2, 60])) (
.ite (.t 60) (
  .seq (.reg false [
    ⟨(some 4), none, .mv false (.c (.int .i64 1)), none⟩] (some [4])) (
  .ret)) (
  .skip))) (
.seq (.seq (.reg false [
  ⟨(some 61), none, .mv false (.t 1), none⟩,
  ⟨(some 62), none, .fld 1 (.t 2), none⟩,
  ⟨(some 63), none, .ld none (.t 62), none⟩,
  ⟨(some 64), none, .bin .eql .i64 (.t 63) (.c (.int .i64 0)), none⟩,
  ⟨(some 65), none, .eqb true false (.t 61) (.t 64), none⟩] (some [65])) (
.ite (.t 65) (
  .seq (.reg false [
    ⟨(some 4), none, .mv false (.c (.int .i64 8)), none⟩] (some [4])) (
  .ret)) (
  .skip))) (
.seq (.reg false [
  ⟨(some 4), none, .mv false (.c (.int .i64 0)), none⟩] (some [4])) (
.ret))))))
set_option maxRecDepth 1000000 in
theorem comp_script_Command_check : (Tryd.f21.body.bind fun code => compC Tryd.prog Tryd.f21.ntmps code c_script_Command_check) = some c_script_Command_check.bare := by kernel_rfl
def r_script_Command_check : List R := [.t 4]
theorem spo_script_Command_check {ds : List D} {d : D} (hn : Nat.ble ds.length 66 = true) (h : run TSpC gtab 0 c_script_Command_check (retK r_script_Command_check (· = d)) ⟨env0 0 ds, []⟩) : TSp 21 ds d := Sp_of mixed c_script_Command_check r_script_Command_check (fn := Tryd.f21) (by kernel_rfl) (by kernel_rfl) comp_script_Command_check (by kernel_rfl) hn h
theorem spm_script_Command_check {ds : List D} {d : D} {bx bx' : List Ent} (hn : Nat.ble ds.length 66 = true) (h : run TSpC gtab (sizeE bx) c_script_Command_check (retG r_script_Command_check (fun d1 bx1 => Rt (sizeE bx) bx1 d1 d bx')) ⟨env0 0 ds, bx⟩) : TSpM 21 ds bx d bx' := SpM_of mixed c_script_Command_check r_script_Command_check (fn := Tryd.f21) (by kernel_rfl) (by kernel_rfl) comp_script_Command_check (by kernel_rfl) hn h
/-- glazier/glazierref63.cut -/
def c_ref63_cut : C := .seq (.reg false [
  ⟨(some 4), none, .nilS 9 1, none⟩] (some [0, 1])) (
.seq (.reg false [
  ⟨(some 5), none, .nilS 9 1, none⟩] (some [0, 1, 5])) (
.seq (.reg false [
  ⟨(some 6), none, .mv false (.c (.int .i64 0)), none⟩] (some [0, 1, 5, 6])) (
.seq (.seq (.reg false [
  ⟨(some 7), none, .mv false (.c (.int .i64 0)), none⟩] (some [0, 1, 5, 6, 7])) (
.blk 0 (
  .loop (
    .seq (.seq (.reg false [
      ⟨(some 8), none, .mv false (.t 7), none⟩,
      ⟨(some 9), none, .mv false (.t 0), none⟩,
      ⟨(some 10), none, .len true (.t 9), none⟩,
      ⟨(some 11), none, .bin .leq .i64 (.t 8) (.t 10), none⟩] (some [0, 1, 5, 6, 7, 11])) (
    .ite (.t 11) (
      .skip) (
      .exit 0))) (
    .seq (.blk 1 (
      .seq (.reg false [
        ⟨(some 14), none, .mv false (.t 7), none⟩,
        ⟨(some 15), none, .mv false (.t 0), none⟩,
        ⟨(some 16), none, .len true (.t 15), none⟩,
        ⟨(some 17), none, .bin .eql .i64 (.t 14) (.t 16), none⟩,
        ⟨(some 18), none, .mv false (.t 17), none⟩,
        ⟨(some 19), some (18, false), .mv false (.t 0), none⟩,
        ⟨(some 20), some (18, false), .mv false (.t 7), none⟩,
        ⟨(some 21), some (18, false), .sidx (.t 19) (.t 20), none⟩,
        ⟨(some 22), some (18, false), .mv false (.t 1), none⟩,
        ⟨(some 23), some (18, false), .bin .eql .u8 (.t 21) (.t 22), none⟩,
        ⟨(some 24), none, .pick (.t 18) (.c (.bool true)) (.t 23), none⟩] (some [0, 1, 5, 6, 7, 24])) (
      .ite (.t 24) (
        .seq (.reg false [
          ⟨(some 25), none, .mv false (.t 5), none⟩,
          ⟨(some 26), none, .mv false (.t 0), none⟩,
          ⟨(some 27), none, .mv false (.t 6), none⟩,
          ⟨(some 28), none, .mv false (.t 7), none⟩,
          ⟨(some 29), none, .sst (.t 26) (some (.t 27)) (some (.t 28)), none⟩,
          ⟨(some 30), none, .bsl none 9 1 none [(.t 29)], none⟩,
          ⟨(some 31), none, .app 9 1 16 (.t 25) (.t 30), none⟩,
          ⟨(some 5), none, .mv false (.t 31), none⟩] (some [0, 1, 5, 7])) (
        .reg false [
          ⟨(some 32), none, .mv false (.t 7), none⟩,
          ⟨(some 33), none, .bin .add .i64 (.t 32) (.c (.int .i64 1)), none⟩,
          ⟨(some 6), none, .mv false (.t 33), none⟩] (some [0, 1, 5, 6, 7]))) (
        .skip)))) (
    .reg false [
      ⟨(some 12), none, .mv false (.t 7), none⟩,
      ⟨(some 13), none, .bin .add .i64 (.t 12) (.c (.int .i64 1)), none⟩,
      ⟨(some 7), none, .mv false (.t 13), none⟩] (some [0, 1, 5, 6, 7]))))))) (
.seq (.reg false [
  ⟨(some 34), none, .mv false (.t 5), none⟩,
  ⟨(some 4), none, .mv false (.t 34), none⟩] (some [4])) (
.ret)))))
set_option maxRecDepth 1000000 in
theorem comp_ref63_cut : (Tryd.f22.body.bind fun code => compC Tryd.prog Tryd.f22.ntmps code c_ref63_cut) = some c_ref63_cut.bare := by kernel_rfl
def r_ref63_cut : List R := [.t 4]
theorem spo_ref63_cut {ds : List D} {d : D} (hn : Nat.ble ds.length 35 = true) (h : run TSpC gtab 0 c_ref63_cut (retK r_ref63_cut (· = d)) ⟨env0 0 ds, []⟩) : TSp 22 ds d := Sp_of mixed c_ref63_cut r_ref63_cut (fn := Tryd.f22) (by kernel_rfl) (by kernel_rfl) comp_ref63_cut (by kernel_rfl) hn h
theorem spm_ref63_cut {ds : List D} {d : D} {bx bx' : List Ent} (hn : Nat.ble ds.length 35 = true) (h : run TSpC gtab (sizeE bx) c_ref63_cut (retG r_ref63_cut (fun d1 bx1 => Rt (sizeE bx) bx1 d1 d bx')) ⟨env0 0 ds, bx⟩) : TSpM 22 ds bx d bx' := SpM_of mixed c_ref63_cut r_ref63_cut (fn := Tryd.f22) (by kernel_rfl) (by kernel_rfl) comp_ref63_cut (by kernel_rfl) hn h
/-- glazier/glazierref63.read -/
def c_ref63_read : C := .seq (.reg false [
  ⟨(some 2), none, .alloc [(.int .i64 0), (.int .i64 0), (.ls 1 []), (.ls 1 [])], none⟩,
  ⟨(some 3), none, .mv false (.c (.int .i64 0)), none⟩] (some [0, 2])) (
.seq (.reg false [
  ⟨(some 14), none, .mv false (.t 0), none⟩,
  ⟨(some 15), none, .call false 22 [(.t 14), (.c (.int .u8 32))], none⟩,
  ⟨(some 4), none, .mv false (.t 15), none⟩] (some [2, 4])) (
.seq (.reg false [
  ⟨(some 16), none, .prm false true (.blt 54 1) [(.c (.int .i64 (-1)))], none⟩,
  ⟨(some 5), none, .alloc [(.int .i64 0), (.int .i64 0), (.ls 1 []), (.ls 1 [])], none⟩,
  ⟨none, none, .st (some 4) (.t 5) (.t 16), none⟩] (some [2, 4, 5])) (
.seq (.seq (.reg false [
  ⟨(some 6), none, .mv false (.c (.int .i64 0)), none⟩] (some [2, 4, 5, 6])) (
.blk 0 (
  .loop (
    .seq (.seq (.reg false [
      ⟨(some 17), none, .mv false (.t 6), none⟩,
      ⟨(some 18), none, .bin .lss .i64 (.t 17) (.c (.int .i64 16)), none⟩] (some [2, 4, 5, 6, 18])) (
    .ite (.t 18) (
      .skip) (
      .exit 0))) (
    .seq (.blk 1 (
      .seq (.reg true [
        ⟨(some 21), none, .call false 18 [], none⟩,
        ⟨(some 22), none, .mv false (.t 6), none⟩,
        ⟨(some 23), none, .ixs 1 (.t 21) (.t 22), none⟩,
        ⟨(some 24), none, .ld none (.t 23), none⟩,
        ⟨(some 25), none, .mv false (.t 4), none⟩,
        ⟨(some 26), none, .ixs 1 (.t 25) (.c (.int .i64 0)), none⟩,
        ⟨(some 27), none, .ld none (.t 26), none⟩,
        ⟨(some 28), none, .eqb false true (.t 24) (.t 27), none⟩] (some [2, 4, 5, 6, 28])) (
      .ite (.t 28) (
        .reg false [
          ⟨(some 29), none, .mv false (.t 6), none⟩,
          ⟨(some 30), none, .fld 1 (.t 5), none⟩,
          ⟨none, none, .st none (.t 30) (.t 29), none⟩] (some [2, 4, 5, 6])) (
        .skip)))) (
    .reg false [
      ⟨(some 19), none, .mv false (.t 6), none⟩,
      ⟨(some 20), none, .bin .add .i64 (.t 19) (.c (.int .i64 1)), none⟩,
      ⟨(some 6), none, .mv false (.t 20), none⟩] (some [2, 4, 5, 6]))))))) (
.seq (.seq (.reg false [
  ⟨(some 31), none, .fld 1 (.t 5), none⟩,
  ⟨(some 32), none, .ld none (.t 31), none⟩,
  ⟨(some 33), none, .bin .lss .i64 (.t 32) (.c (.int .i64 0)), none⟩] (some [2, 4, 5, 33])) (
.ite (.t 33) (
  .seq (.reg false [
    ⟨(some 34), none, .ld (some 4) (.t 5), none⟩,
    ⟨none, none, .st (some 4) (.t 2) (.t 34), none⟩,
    ⟨(some 3), none, .mv false (.c (.int .i64 11)), none⟩] (some [2, 3])) (
  .ret)) (
  .skip))) (
.seq (.reg false [
  ⟨(some 36), none, .fld 1 (.t 5), none⟩,
  ⟨(some 37), none, .ld none (.t 36), none⟩,
  ⟨(some 38), none, .call false 38 [(.t 37)], none⟩,
  ⟨(some 35), none, .mv false (.t 38), none⟩,
  ⟨(some 39), none, .ext (.t 35) 0, none⟩,
  ⟨(some 40), none, .ext (.t 35) 1, none⟩,
  ⟨(some 41), none, .ext (.t 35) 2, none⟩,
  ⟨(some 7), none, .mv false (.t 39), none⟩,
  ⟨(some 8), none, .mv false (.t 40), none⟩,
  ⟨(some 9), none, .mv false (.t 41), none⟩] (some [2, 4, 5, 9])) (
.seq (.reg false [
  ⟨(some 10), none, .mv false (.c (.int .i64 (-1))), none⟩] (some [2, 4, 5, 9, 10])) (
.seq (.blk 2 (
  .seq (.reg false [
    ⟨(some 43), none, .fld 1 (.t 5), none⟩,
    ⟨(some 44), none, .ld none (.t 43), none⟩,
    ⟨(some 45), none, .bin .eql .i64 (.t 44) (.c (.int .i64 1)), none⟩,
    ⟨(some 42), none, .mv false (.t 45), none⟩] (some [2, 4, 5, 9, 10, 42])) (
  .ite (.t 42) (
    .reg false [
      ⟨(some 10), none, .mv false (.c (.int .i64 1)), none⟩] (some [2, 4, 5, 10])) (
    .seq (.reg false [
      ⟨(some 47), none, .fld 1 (.t 5), none⟩,
      ⟨(some 48), none, .ld none (.t 47), none⟩,
      ⟨(some 49), none, .bin .eql .i64 (.t 48) (.c (.int .i64 3)), none⟩,
      ⟨(some 46), none, .mv false (.t 49), none⟩] (some [2, 4, 5, 9, 10, 46])) (
    .ite (.t 46) (
      .reg false [
        ⟨(some 10), none, .mv false (.c (.int .i64 3)), none⟩] (some [2, 4, 5, 10])) (
      .seq (.reg false [
        ⟨(some 51), none, .mv false (.t 9), none⟩,
        ⟨(some 52), none, .bin .eql .i64 (.t 51) (.c (.int .i64 1)), none⟩,
        ⟨(some 50), none, .mv false (.t 52), none⟩] (some [2, 4, 5, 10, 50])) (
      .ite (.t 50) (
        .reg false [
          ⟨(some 53), none, .mv false (.t 4), none⟩,
          ⟨(some 54), none, .len false (.t 53), none⟩,
          ⟨(some 55), none, .bin .sub .i64 (.t 54) (.c (.int .i64 1)), none⟩,
          ⟨(some 10), none, .mv false (.t 55), none⟩] (some [2, 4, 5, 10])) (
        .skip)))))))) (
.seq (.seq (.reg false [
  ⟨(some 11), none, .mv false (.c (.int .i64 1)), none⟩] (some [2, 4, 5, 10, 11])) (
.blk 3 (
  .loop (
    .seq (.seq (.reg false [
      ⟨(some 56), none, .mv false (.t 11), none⟩,
      ⟨(some 57), none, .mv false (.t 4), none⟩,
      ⟨(some 58), none, .len false (.t 57), none⟩,
      ⟨(some 59), none, .bin .lss .i64 (.t 56) (.t 58), none⟩] (some [2, 4, 5, 10, 11, 59])) (
    .ite (.t 59) (
      .skip) (
      .exit 3))) (
    .seq (.blk 4 (
      .seq (.seq (.reg false [
        ⟨(some 62), none, .mv false (.t 11), none⟩,
        ⟨(some 63), none, .mv false (.t 10), none⟩,
        ⟨(some 64), none, .bin .eql .i64 (.t 62) (.t 63), none⟩] (some [2, 4, 5, 10, 11, 64])) (
      .ite (.t 64) (
        .seq (.reg true [
          ⟨(some 65), none, .fld 3 (.t 5), none⟩,
          ⟨(some 66), none, .ld none (.t 65), none⟩,
          ⟨(some 67), none, .mv false (.t 4), none⟩,
          ⟨(some 68), none, .mv false (.t 11), none⟩,
          ⟨(some 69), none, .ixs 1 (.t 67) (.t 68), none⟩,
          ⟨(some 70), none, .ld none (.t 69), none⟩,
          ⟨(some 71), none, .bsl none 9 1 none [(.t 70)], none⟩,
          ⟨(some 72), none, .app 9 1 16 (.t 66) (.t 71), none⟩,
          ⟨(some 73), none, .fld 3 (.t 5), none⟩,
          ⟨none, none, .st none (.t 73) (.t 72), none⟩] (some [2, 4, 5, 10, 11])) (
        .exit 4)) (
        .skip))) (
      .seq (.reg false [
        ⟨(some 75), none, .mv false (.t 4), none⟩,
        ⟨(some 76), none, .mv false (.t 11), none⟩,
        ⟨(some 77), none, .ixs 1 (.t 75) (.t 76), none⟩,
        ⟨(some 78), none, .ld none (.t 77), none⟩,
        ⟨(some 79), none, .call false 39 [(.t 78)], none⟩,
        ⟨(some 74), none, .mv false (.t 79), none⟩,
        ⟨(some 80), none, .ext (.t 74) 0, none⟩,
        ⟨(some 81), none, .ext (.t 74) 1, none⟩,
        ⟨(some 12), none, .mv false (.t 80), none⟩,
        ⟨(some 13), none, .mv false (.t 81), none⟩] (some [2, 4, 5, 10, 11, 12, 13])) (
      .seq (.seq (.reg false [
        ⟨(some 82), none, .mv false (.t 13), none⟩,
        ⟨(some 83), none, .not (.t 82), none⟩] (some [2, 4, 5, 10, 11, 12, 83])) (
      .ite (.t 83) (
        .seq (.reg false [
          ⟨(some 84), none, .ld (some 4) (.t 5), none⟩,
          ⟨none, none, .st (some 4) (.t 2) (.t 84), none⟩,
          ⟨(some 3), none, .mv false (.c (.int .i64 2)), none⟩] (some [2, 3])) (
        .ret)) (
        .skip))) (
      .reg false [
        ⟨(some 85), none, .fld 2 (.t 5), none⟩,
        ⟨(some 86), none, .ld none (.t 85), none⟩,
        ⟨(some 87), none, .mv false (.t 12), none⟩,
        ⟨(some 88), none, .bsl none 2 1 none [(.t 87)], none⟩,
        ⟨(some 89), none, .app 2 1 8 (.t 86) (.t 88), none⟩,
        ⟨(some 90), none, .fld 2 (.t 5), none⟩,
        ⟨none, none, .st none (.t 90) (.t 89), none⟩] (some [2, 4, 5, 10, 11])))))) (
    .reg false [
      ⟨(some 60), none, .mv false (.t 11), none⟩,
      ⟨(some 61), none, .bin .add .i64 (.t 60) (.c (.int .i64 1)), none⟩,
      ⟨(some 11), none, .mv false (.t 61), none⟩] (some [2, 4, 5, 10, 11]))))))) (
.seq (.seq (.reg false [
  ⟨(some 91), none, .ld (some 4) (.t 5), none⟩,
  ⟨(some 92), none, .call false 30 [(.t 91)], none⟩,
  ⟨(some 93), none, .not (.t 92), none⟩] (some [2, 5, 93])) (
.ite (.t 93) (
  .seq (.reg false [
    ⟨(some 94), none, .ld (some 4) (.t 5), none⟩,
    ⟨none, none, .st (some 4) (.t 2) (.t 94), none⟩,
    ⟨(some 3), none, .mv false (.c (.int .i64 2)), none⟩] (some [2, 3])) (
  .ret)) (
  .skip))) (
.seq (.seq (.reg false [
  ⟨(some 95), none, .ld (some 4) (.t 5), none⟩,
  ⟨(some 96), none, .call false 31 [(.t 95)], none⟩,
  ⟨(some 97), none, .not (.t 96), none⟩] (some [2, 5, 97])) (
.ite (.t 97) (
  .seq (.reg false [
    ⟨(some 98), none, .ld (some 4) (.t 5), none⟩,
    ⟨none, none, .st (some 4) (.t 2) (.t 98), none⟩,
    ⟨(some 3), none, .mv false (.c (.int .i64 1)), none⟩] (some [2, 3])) (
  .ret)) (
  .skip))) (
.seq (.reg false [
  ⟨(some 99), none, .ld (some 4) (.t 5), none⟩,
  ⟨none, none, .st (some 4) (.t 2) (.t 99), none⟩,
  ⟨(some 3), none, .mv false (.c (.int .i64 0)), none⟩] (some [2, 3])) (
.ret))))))))))))
set_option maxRecDepth 1000000 in
theorem comp_ref63_read : (Tryd.f23.body.bind fun code => compC Tryd.prog Tryd.f23.ntmps code c_ref63_read) = some c_ref63_read.bare := by kernel_rfl
def r_ref63_read : List R := [.cell 2 (some 4), .t 3]
theorem spo_ref63_read {ds : List D} {d : D} (hn : Nat.ble ds.length 100 = true) (h : run TSpC gtab 0 c_ref63_read (retK r_ref63_read (· = d)) ⟨env0 0 ds, []⟩) : TSp 23 ds d := Sp_of mixed c_ref63_read r_ref63_read (fn := Tryd.f23) (by kernel_rfl) (by kernel_rfl) comp_ref63_read (by kernel_rfl) hn h
theorem spm_ref63_read {ds : List D} {d : D} {bx bx' : List Ent} (hn : Nat.ble ds.length 100 = true) (h : run TSpC gtab (sizeE bx) c_ref63_read (retG r_ref63_read (fun d1 bx1 => Rt (sizeE bx) bx1 d1 d bx')) ⟨env0 0 ds, bx⟩) : TSpM 23 ds bx d bx' := SpM_of mixed c_ref63_read r_ref63_read (fn := Tryd.f23) (by kernel_rfl) (by kernel_rfl) comp_ref63_read (by kernel_rfl) hn h
/-- (glazier/script.Command).built -/
def c_script_Command_built : C := .seq (.reg false [
  ⟨(some 1), none, .box true (.t 0), none⟩,
  ⟨(some 2), none, .mv false (.c (.bool false)), none⟩] (some [1])) (
.seq (.reg false [
  ⟨(some 4), none, .fld 1 (.t 1), none⟩,
  ⟨(some 5), none, .ld none (.t 4), none⟩,
  ⟨(some 6), none, .ixa 16 5 (.c (.glob 0 0)) (.t 5), none⟩,
  ⟨(some 7), none, .ld (some 5) (.t 6), none⟩,
  ⟨(some 3), none, .alloc [(.str []), (.int .i64 0), (.int .i64 0), (.int .i64 0), (.int .i64 0)], none⟩,
  ⟨none, none, .st (some 5) (.t 3) (.t 7), none⟩] (some [1, 3])) (
.seq (.seq (.reg false [
  ⟨(some 8), none, .fld 2 (.t 1), none⟩,
  ⟨(some 9), none, .ld none (.t 8), none⟩,
  ⟨(some 10), none, .len false (.t 9), none⟩,
  ⟨(some 11), none, .fld 1 (.t 3), none⟩,
  ⟨(some 12), none, .ld none (.t 11), none⟩,
  ⟨(some 13), none, .bin .lss .i64 (.t 10) (.t 12), none⟩,
  ⟨(some 14), none, .mv false (.t 13), none⟩,
  ⟨(some 15), some (14, false), .fld 2 (.t 1), none⟩,
  ⟨(some 16), some (14, false), .ld none (.t 15), none⟩,
  ⟨(some 17), some (14, false), .len false (.t 16), none⟩,
  ⟨(some 18), some (14, false), .fld 2 (.t 3), none⟩,
  ⟨(some 19), some (14, false), .ld none (.t 18), none⟩,
  ⟨(some 20), some (14, false), .bin .gtr .i64 (.t 17) (.t 19), none⟩,
  ⟨(some 21), none, .pick (.t 14) (.c (.bool true)) (.t 20), none⟩] (some [1, 3, 21])) (
.ite (.t 21) (
  .seq (.reg false [
    ⟨(some 2), none, .mv false (.c (.bool false)), none⟩] (some [2])) (
  .ret)) (
  .skip))) (
.seq (.seq (.reg false [
  ⟨(some 22), none, .fld 3 (.t 3), none⟩,
  ⟨(some 23), none, .ld none (.t 22), none⟩,
  ⟨(some 24), none, .bin .eql .i64 (.t 23) (.c (.int .i64 0)), none⟩] (some [1, 3, 24])) (
.ite (.t 24) (
  .seq (.reg false [
    ⟨(some 25), none, .fld 3 (.t 1), none⟩,
    ⟨(some 26), none, .ld none (.t 25), none⟩,
    ⟨(some 27), none, .len false (.t 26), none⟩,
    ⟨(some 28), none, .bin .eql .i64 (.t 27) (.c (.int .i64 0)), none⟩,
    ⟨(some 2), none, .mv false (.t 28), none⟩] (some [2])) (
  .ret)) (
  .skip))) (
.seq (.reg true [
  ⟨(some 29), none, .fld 3 (.t 1), none⟩,
  ⟨(some 30), none, .ld none (.t 29), none⟩,
  ⟨(some 31), none, .len false (.t 30), none⟩,
  ⟨(some 32), none, .bin .eql .i64 (.t 31) (.c (.int .i64 1)), none⟩,
  ⟨(some 33), none, .mv false (.t 32), none⟩,
  ⟨(some 34), some (33, true), .fld 3 (.t 3), none⟩,
  ⟨(some 35), some (33, true), .ld none (.t 34), none⟩,
  ⟨(some 36), some (33, true), .fld 3 (.t 1), none⟩,
  ⟨(some 37), some (33, true), .ld none (.t 36), none⟩,
  ⟨(some 38), some (33, true), .ixs 1 (.t 37) (.c (.int .i64 0)), none⟩,
  ⟨(some 39), some (33, true), .ld none (.t 38), none⟩,
  ⟨(some 40), some (33, true), .call false 40 [(.t 35), (.t 39)], none⟩,
  ⟨(some 41), none, .pick (.t 33) (.t 40) (.c (.bool false)), none⟩,
  ⟨(some 2), none, .mv false (.t 41), none⟩] (some [2])) (
.ret)))))
set_option maxRecDepth 1000000 in
theorem comp_script_Command_built : (Tryd.f24.body.bind fun code => compC Tryd.prog Tryd.f24.ntmps code c_script_Command_built) = some c_script_Command_built.bare := by kernel_rfl
def r_script_Command_built : List R := [.t 2]
theorem spo_script_Command_built {ds : List D} {d : D} (hn : Nat.ble ds.length 42 = true) (h : run TSpC gtab 0 c_script_Command_built (retK r_script_Command_built (· = d)) ⟨env0 0 ds, []⟩) : TSp 24 ds d := Sp_of mixed c_script_Command_built r_script_Command_built (fn := Tryd.f24) (by kernel_rfl) (by kernel_rfl) comp_script_Command_built (by kernel_rfl) hn h
theorem spm_script_Command_built {ds : List D} {d : D} {bx bx' : List Ent} (hn : Nat.ble ds.length 42 = true) (h : run TSpC gtab (sizeE bx) c_script_Command_built (retG r_script_Command_built (fun d1 bx1 => Rt (sizeE bx) bx1 d1 d bx')) ⟨env0 0 ds, bx⟩) : TSpM 24 ds bx d bx' := SpM_of mixed c_script_Command_built r_script_Command_built (fn := Tryd.f24) (by kernel_rfl) (by kernel_rfl) comp_script_Command_built (by kernel_rfl) hn h
/-- (*strings.Builder).WriteString -/
def c_strings_Builder_WriteString : C := .seq (.reg false [
  ⟨(some 4), none, .mv false (.c (.int .i64 0)), none⟩,
  ⟨(some 5), none, .mv false (.c (.ifc true)), none⟩] (some [0, 1])) (
.seq (.reg false [
  ⟨(some 6), none, .mv false (.t 0), none⟩,
  ⟨(some 7), none, .call true 41 [(.t 6)], none⟩] (some [0, 1])) (
.seq (.reg false [
  ⟨(some 8), none, .mv false (.t 0), none⟩,
  ⟨(some 9), none, .mv false (.t 0), none⟩,
  ⟨(some 10), none, .chk (.t 9), none⟩,
  ⟨(some 11), none, .fld 1 (.t 10), none⟩,
  ⟨(some 12), none, .ld none (.t 11), none⟩,
  ⟨(some 13), none, .mv false (.t 1), none⟩,
  ⟨(some 14), none, .prm false true (.aps 58 9) [(.t 12), (.t 13)], none⟩,
  ⟨(some 15), none, .chk (.t 8), none⟩,
  ⟨(some 16), none, .fld 1 (.t 15), none⟩,
  ⟨none, none, .st none (.t 16) (.t 14), none⟩] (some [1])) (
.seq (.reg false [
  ⟨(some 17), none, .mv false (.t 1), none⟩,
  ⟨(some 18), none, .len true (.t 17), none⟩,
  ⟨(some 4), none, .mv false (.t 18), none⟩,
  ⟨(some 5), none, .mv false (.c (.ifc true)), none⟩] (some [4, 5])) (
.ret))))
set_option maxRecDepth 1000000 in
theorem comp_strings_Builder_WriteString : (Tryd.f25.body.bind fun code => compC Tryd.prog Tryd.f25.ntmps code c_strings_Builder_WriteString) = some c_strings_Builder_WriteString.bare := by kernel_rfl
def r_strings_Builder_WriteString : List R := [.t 4, .t 5]
theorem spo_strings_Builder_WriteString {ds : List D} {d : D} (hn : Nat.ble ds.length 19 = true) (h : run TSpC gtab 0 c_strings_Builder_WriteString (retK r_strings_Builder_WriteString (· = d)) ⟨env0 0 ds, []⟩) : TSp 25 ds d := Sp_of mixed c_strings_Builder_WriteString r_strings_Builder_WriteString (fn := Tryd.f25) (by kernel_rfl) (by kernel_rfl) comp_strings_Builder_WriteString (by kernel_rfl) hn h
theorem spm_strings_Builder_WriteString {ds : List D} {d : D} {bx bx' : List Ent} (hn : Nat.ble ds.length 19 = true) (h : run TSpC gtab (sizeE bx) c_strings_Builder_WriteString (retG r_strings_Builder_WriteString (fun d1 bx1 => Rt (sizeE bx) bx1 d1 d bx')) ⟨env0 0 ds, bx⟩) : TSpM 25 ds bx d bx' := SpM_of mixed c_strings_Builder_WriteString r_strings_Builder_WriteString (fn := Tryd.f25) (by kernel_rfl) (by kernel_rfl) comp_strings_Builder_WriteString (by kernel_rfl) hn h
/-- (glazier/script.Command).text -/
def c_script_Command_text : C := .seq (.reg false [
  ⟨(some 1), none, .box true (.t 0), none⟩,
  ⟨(some 2), none, .mv false (.c (.str [])), none⟩] (some [1])) (
.seq (.reg false [
  ⟨(some 7), none, .fld 1 (.t 1), none⟩,
  ⟨(some 8), none, .ld none (.t 7), none⟩,
  ⟨(some 9), none, .ixa 16 5 (.c (.glob 0 0)) (.t 8), none⟩,
  ⟨(some 10), none, .ld (some 5) (.t 9), none⟩,
  ⟨(some 3), none, .alloc [(.str []), (.int .i64 0), (.int .i64 0), (.int .i64 0), (.int .i64 0)], none⟩,
  ⟨none, none, .st (some 5) (.t 3) (.t 10), none⟩] (some [1, 3])) (
.seq (.reg false [
  ⟨(some 11), none, .fld 0 (.t 3), none⟩,
  ⟨(some 12), none, .ld none (.t 11), none⟩,
  ⟨(some 13), none, .bsl (some false) 9 1 none [(.t 12)], none⟩,
  ⟨(some 4), none, .mv false (.t 13), none⟩] (some [1, 3, 4])) (
.seq (.seq (.reg false [
  ⟨(some 14), none, .fld 2 (.t 1), none⟩,
  ⟨(some 15), none, .ld none (.t 14), none⟩,
  ⟨(some 16), none, .len false (.t 15), none⟩,
  ⟨(some 17), none, .mv false (.c (.int .i64 0)), none⟩] (some [1, 3, 4, 15, 16, 17])) (
.blk 0 (
  .loop (
    .seq (.reg false [
      ⟨(some 18), none, .bin .lss .i64 (.t 17) (.t 16), none⟩] (some [1, 3, 4, 15, 16, 17, 18])) (
    .seq (.ite (.t 18) (
      .skip) (
      .exit 0)) (
    .seq (.blk 1 (
      .seq (.reg false [
        ⟨(some 19), none, .ixs 1 (.t 15) (.t 17), none⟩,
        ⟨(some 20), none, .ld none (.t 19), none⟩,
        ⟨(some 6), none, .mv false (.t 20), none⟩] (some [1, 3, 4, 6, 15, 16, 17])) (
      .reg false [
        ⟨(some 21), none, .mv false (.t 4), none⟩,
        ⟨(some 22), none, .mv false (.t 6), none⟩,
        ⟨(some 23), none, .call false 42 [(.t 22), (.c (.int .i64 10))], none⟩,
        ⟨(some 24), none, .bsl none 9 1 none [(.t 23)], none⟩,
        ⟨(some 25), none, .app 9 1 16 (.t 21) (.t 24), none⟩,
        ⟨(some 4), none, .mv false (.t 25), none⟩] (some [1, 3, 4, 15, 16, 17])))) (
    .reg false [
      ⟨(some 26), none, .bin .add .i64 (.t 17) (.c (.int .i64 1)), none⟩,
      ⟨(some 17), none, .mv false (.t 26), none⟩] (some [1, 3, 4, 15, 16, 17])))))))) (
.seq (.seq (.reg false [
  ⟨(some 27), none, .fld 3 (.t 3), none⟩,
  ⟨(some 28), none, .ld none (.t 27), none⟩,
  ⟨(some 29), none, .bin .neq .i64 (.t 28) (.c (.int .i64 0)), none⟩] (some [1, 3, 4, 29])) (
.ite (.t 29) (
  .reg true [
    ⟨(some 30), none, .mv false (.t 4), none⟩,
    ⟨(some 31), none, .fld 4 (.t 3), none⟩,
    ⟨(some 32), none, .ld none (.t 31), (some [1])⟩,
    ⟨(some 33), none, .bin .add .i64 (.c (.int .i64 1)) (.t 32), none⟩,
    ⟨(some 34), none, .fld 3 (.t 1), none⟩,
    ⟨(some 35), none, .ld none (.t 34), (some [0])⟩,
    ⟨(some 36), none, .ixs 1 (.t 35) (.c (.int .i64 0)), (some [])⟩,
    ⟨(some 37), none, .ld none (.t 36), (some [])⟩,
    ⟨(some 38), none, .bsl none 9 1 none [(.t 37)], none⟩,
    ⟨(some 39), none, .callK [2] 43 [(.t 30), (.t 33), (.t 38)], none⟩,
    ⟨(some 4), none, .mv false (.t 39), none⟩] (some [4])) (
  .skip))) (
.seq (.reg false [
  ⟨(some 40), none, .mv false (.t 4), none⟩,
  ⟨(some 41), none, .call false 44 [(.t 40), (.c (.str [32]))], none⟩,
  ⟨(some 2), none, .mv false (.t 41), none⟩] (some [2])) (
.ret))))))
set_option maxRecDepth 1000000 in
theorem comp_script_Command_text : (Tryd.f26.body.bind fun code => compC Tryd.prog Tryd.f26.ntmps code c_script_Command_text) = some c_script_Command_text.bare := by kernel_rfl
def r_script_Command_text : List R := [.t 2]
theorem spo_script_Command_text {ds : List D} {d : D} (hn : Nat.ble ds.length 42 = true) (h : run TSpC gtab 0 c_script_Command_text (retK r_script_Command_text (· = d)) ⟨env0 0 ds, []⟩) : TSp 26 ds d := Sp_of mixed c_script_Command_text r_script_Command_text (fn := Tryd.f26) (by kernel_rfl) (by kernel_rfl) comp_script_Command_text (by kernel_rfl) hn h
theorem spm_script_Command_text {ds : List D} {d : D} {bx bx' : List Ent} (hn : Nat.ble ds.length 42 = true) (h : run TSpC gtab (sizeE bx) c_script_Command_text (retG r_script_Command_text (fun d1 bx1 => Rt (sizeE bx) bx1 d1 d bx')) ⟨env0 0 ds, bx⟩) : TSpM 26 ds bx d bx' := SpM_of mixed c_script_Command_text r_script_Command_text (fn := Tryd.f26) (by kernel_rfl) (by kernel_rfl) comp_script_Command_text (by kernel_rfl) hn h
/-- (*strings.Builder).WriteByte -/
def c_strings_Builder_WriteByte : C := .seq (.reg false [
  ⟨(some 4), none, .mv false (.c (.ifc true)), none⟩] (some [0, 1])) (
.seq (.reg false [
  ⟨(some 5), none, .mv false (.t 0), none⟩,
  ⟨(some 6), none, .call true 41 [(.t 5)], none⟩] (some [0, 1])) (
.seq (.reg false [
  ⟨(some 7), none, .mv false (.t 0), none⟩,
  ⟨(some 8), none, .mv false (.t 0), none⟩,
  ⟨(some 9), none, .chk (.t 8), none⟩,
  ⟨(some 10), none, .fld 1 (.t 9), none⟩,
  ⟨(some 11), none, .ld none (.t 10), none⟩,
  ⟨(some 12), none, .mv false (.t 1), none⟩,
  ⟨(some 13), none, .bsl none 5 1 none [(.t 12)], none⟩,
  ⟨(some 14), none, .app 5 1 1 (.t 11) (.t 13), none⟩,
  ⟨(some 15), none, .chk (.t 7), none⟩,
  ⟨(some 16), none, .fld 1 (.t 15), none⟩,
  ⟨none, none, .st none (.t 16) (.t 14), none⟩] (some [])) (
.seq (.reg false [
  ⟨(some 4), none, .mv false (.c (.ifc true)), none⟩] (some [4])) (
.ret))))
set_option maxRecDepth 1000000 in
theorem comp_strings_Builder_WriteByte : (Tryd.f27.body.bind fun code => compC Tryd.prog Tryd.f27.ntmps code c_strings_Builder_WriteByte) = some c_strings_Builder_WriteByte.bare := by kernel_rfl
def r_strings_Builder_WriteByte : List R := [.t 4]
theorem spo_strings_Builder_WriteByte {ds : List D} {d : D} (hn : Nat.ble ds.length 17 = true) (h : run TSpC gtab 0 c_strings_Builder_WriteByte (retK r_strings_Builder_WriteByte (· = d)) ⟨env0 0 ds, []⟩) : TSp 27 ds d := Sp_of mixed c_strings_Builder_WriteByte r_strings_Builder_WriteByte (fn := Tryd.f27) (by kernel_rfl) (by kernel_rfl) comp_strings_Builder_WriteByte (by kernel_rfl) hn h
theorem spm_strings_Builder_WriteByte {ds : List D} {d : D} {bx bx' : List Ent} (hn : Nat.ble ds.length 17 = true) (h : run TSpC gtab (sizeE bx) c_strings_Builder_WriteByte (retG r_strings_Builder_WriteByte (fun d1 bx1 => Rt (sizeE bx) bx1 d1 d bx')) ⟨env0 0 ds, bx⟩) : TSpM 27 ds bx d bx' := SpM_of mixed c_strings_Builder_WriteByte r_strings_Builder_WriteByte (fn := Tryd.f27) (by kernel_rfl) (by kernel_rfl) comp_strings_Builder_WriteByte (by kernel_rfl) hn h
/-- (*strings.Builder).Len -/
def c_strings_Builder_Len : C := .seq (.reg false [
  ⟨(some 2), none, .mv false (.c (.int .i64 0)), none⟩] (some [0])) (
.seq (.reg false [
  ⟨(some 3), none, .mv false (.t 0), none⟩,
  ⟨(some 4), none, .chk (.t 3), none⟩,
  ⟨(some 5), none, .fld 1 (.t 4), none⟩,
  ⟨(some 6), none, .ld none (.t 5), none⟩,
  ⟨(some 7), none, .len false (.t 6), none⟩,
  ⟨(some 2), none, .mv false (.t 7), none⟩] (some [2])) (
.ret))
set_option maxRecDepth 1000000 in
theorem comp_strings_Builder_Len : (Tryd.f28.body.bind fun code => compC Tryd.prog Tryd.f28.ntmps code c_strings_Builder_Len) = some c_strings_Builder_Len.bare := by kernel_rfl
def r_strings_Builder_Len : List R := [.t 2]
theorem spo_strings_Builder_Len {ds : List D} {d : D} (hn : Nat.ble ds.length 8 = true) (h : run TSpC gtab 0 c_strings_Builder_Len (retK r_strings_Builder_Len (· = d)) ⟨env0 0 ds, []⟩) : TSp 28 ds d := Sp_of mixed c_strings_Builder_Len r_strings_Builder_Len (fn := Tryd.f28) (by kernel_rfl) (by kernel_rfl) comp_strings_Builder_Len (by kernel_rfl) hn h
theorem spm_strings_Builder_Len {ds : List D} {d : D} {bx bx' : List Ent} (hn : Nat.ble ds.length 8 = true) (h : run TSpC gtab (sizeE bx) c_strings_Builder_Len (retG r_strings_Builder_Len (fun d1 bx1 => Rt (sizeE bx) bx1 d1 d bx')) ⟨env0 0 ds, bx⟩) : TSpM 28 ds bx d bx' := SpM_of mixed c_strings_Builder_Len r_strings_Builder_Len (fn := Tryd.f28) (by kernel_rfl) (by kernel_rfl) comp_strings_Builder_Len (by kernel_rfl) hn h
/-- glazier/glazierref63.form -/
def c_ref63_form : C := .seq (.reg false [
  ⟨(some 1), none, .box true (.t 0), none⟩,
  ⟨(some 2), none, .mv false (.c (.bool false)), none⟩] (some [1])) (
.seq (.reg false [
  ⟨(some 7), none, .fld 1 (.t 1), none⟩,
  ⟨(some 8), none, .ld none (.t 7), none⟩,
  ⟨(some 9), none, .call false 38 [(.t 8)], none⟩,
  ⟨(some 6), none, .mv false (.t 9), none⟩,
  ⟨(some 10), none, .ext (.t 6) 0, none⟩,
  ⟨(some 11), none, .ext (.t 6) 1, none⟩,
  ⟨(some 12), none, .ext (.t 6) 2, none⟩,
  ⟨(some 3), none, .mv false (.t 10), none⟩,
  ⟨(some 4), none, .mv false (.t 11), none⟩,
  ⟨(some 5), none, .mv false (.t 12), none⟩] (some [1, 3, 4, 5])) (
.seq (.seq (.reg false [
  ⟨(some 13), none, .fld 2 (.t 1), none⟩,
  ⟨(some 14), none, .ld none (.t 13), none⟩,
  ⟨(some 15), none, .len false (.t 14), none⟩,
  ⟨(some 16), none, .mv false (.t 3), none⟩,
  ⟨(some 17), none, .bin .lss .i64 (.t 15) (.t 16), none⟩,
  ⟨(some 18), none, .mv false (.t 17), none⟩,
  ⟨(some 19), some (18, false), .fld 2 (.t 1), none⟩,
  ⟨(some 20), some (18, false), .ld none (.t 19), none⟩,
  ⟨(some 21), some (18, false), .len false (.t 20), none⟩,
  ⟨(some 22), some (18, false), .mv false (.t 3), none⟩,
  ⟨(some 23), some (18, false), .bin .gtr .i64 (.t 21) (.t 22), none⟩,
  ⟨(some 24), some (18, false), .mv false (.t 23), none⟩,
  ⟨(some 25), some (24, true), .mv false (.t 4), none⟩,
  ⟨(some 26), some (24, true), .not (.t 25), none⟩,
  ⟨(some 27), some (18, false), .pick (.t 24) (.t 26) (.c (.bool false)), none⟩,
  ⟨(some 28), none, .pick (.t 18) (.c (.bool true)) (.t 27), none⟩,
  ⟨(some 29), none, .mv false (.t 28), none⟩,
  ⟨(some 30), some (29, false), .fld 2 (.t 1), none⟩,
  ⟨(some 31), some (29, false), .ld none (.t 30), none⟩,
  ⟨(some 32), some (29, false), .len false (.t 31), none⟩,
  ⟨(some 33), some (29, false), .bin .gtr .i64 (.t 32) (.c (.int .i64 100)), none⟩,
  ⟨(some 34), none, .pick (.t 29) (.c (.bool true)) (.t 33), none⟩,
  ⟨(some 35), none, .mv false (.t 34), none⟩,
  ⟨(some 36), some (35, false), .fld 3 (.t 1), none⟩,
  ⟨(some 37), some (35, false), .ld none (.t 36), none⟩,
  ⟨(some 38), some (35, false), .len false (.t 37), none⟩,
  ⟨(some 39), some (35, false), .mv false (.t 5), none⟩,
  ⟨(some 40), some (35, false), .bin .neq .i64 (.t 38) (.t 39), none⟩,
  ⟨(some 41), none, .pick (.t 35) (.c (.bool true)) (.t 40), none⟩] (some [1, 5, 41])) (
.ite (.t 41) (
  .seq (.reg false [
    ⟨(some 2), none, .mv false (.c (.bool false)), none⟩] (some [2])) (
  .ret)) (
  .skip))) (
.seq (.reg true [
  ⟨(some 42), none, .mv false (.t 5), none⟩,
  ⟨(some 43), none, .bin .eql .i64 (.t 42) (.c (.int .i64 0)), none⟩,
  ⟨(some 44), none, .mv false (.t 43), none⟩,
  ⟨(some 45), some (44, false), .fld 1 (.t 1), none⟩,
  ⟨(some 46), some (44, false), .ld none (.t 45), none⟩,
  ⟨(some 47), some (44, false), .fld 3 (.t 1), none⟩,
  ⟨(some 48), some (44, false), .ld none (.t 47), none⟩,
  ⟨(some 49), some (44, false), .ixs 1 (.t 48) (.c (.int .i64 0)), none⟩,
  ⟨(some 50), some (44, false), .ld none (.t 49), none⟩,
  ⟨(some 51), some (44, false), .call false 45 [(.t 46), (.t 50)], none⟩,
  ⟨(some 52), none, .pick (.t 44) (.c (.bool true)) (.t 51), none⟩,
  ⟨(some 2), none, .mv false (.t 52), none⟩] (some [2])) (
.ret))))
set_option maxRecDepth 1000000 in
theorem comp_ref63_form : (Tryd.f30.body.bind fun code => compC Tryd.prog Tryd.f30.ntmps code c_ref63_form) = some c_ref63_form.bare := by kernel_rfl
def r_ref63_form : List R := [.t 2]
theorem spo_ref63_form {ds : List D} {d : D} (hn : Nat.ble ds.length 53 = true) (h : run TSpC gtab 0 c_ref63_form (retK r_ref63_form (· = d)) ⟨env0 0 ds, []⟩) : TSp 30 ds d := Sp_of mixed c_ref63_form r_ref63_form (fn := Tryd.f30) (by kernel_rfl) (by kernel_rfl) comp_ref63_form (by kernel_rfl) hn h
theorem spm_ref63_form {ds : List D} {d : D} {bx bx' : List Ent} (hn : Nat.ble ds.length 53 = true) (h : run TSpC gtab (sizeE bx) c_ref63_form (retG r_ref63_form (fun d1 bx1 => Rt (sizeE bx) bx1 d1 d bx')) ⟨env0 0 ds, bx⟩) : TSpM 30 ds bx d bx' := SpM_of mixed c_ref63_form r_ref63_form (fn := Tryd.f30) (by kernel_rfl) (by kernel_rfl) comp_ref63_form (by kernel_rfl) hn h
/-- glazier/glazierref63.bounds -/
def c_ref63_bounds : C := .seq (.reg false [
  ⟨(some 1), none, .box true (.t 0), none⟩,
  ⟨(some 2), none, .mv false (.c (.bool false)), none⟩] (some [1])) (
.seq (.seq (.reg false [
  ⟨(some 3), none, .mv false (.c (.int .i64 0)), none⟩] (some [1, 3])) (
.blk 0 (
  .loop (
    .seq (.seq (.reg false [
      ⟨(some 5), none, .mv false (.t 3), none⟩,
      ⟨(some 6), none, .fld 2 (.t 1), none⟩,
      ⟨(some 7), none, .ld none (.t 6), none⟩,
      ⟨(some 8), none, .len false (.t 7), none⟩,
      ⟨(some 9), none, .bin .lss .i64 (.t 5) (.t 8), none⟩] (some [1, 3, 9])) (
    .ite (.t 9) (
      .skip) (
      .exit 0))) (
    .seq (.blk 1 (
      .seq (.reg false [
        ⟨(some 12), none, .fld 2 (.t 1), none⟩,
        ⟨(some 13), none, .ld none (.t 12), none⟩,
        ⟨(some 14), none, .mv false (.t 3), none⟩,
        ⟨(some 15), none, .ixs 1 (.t 13) (.t 14), none⟩,
        ⟨(some 16), none, .ld none (.t 15), none⟩,
        ⟨(some 17), none, .call false 46 [(.t 16), (.c (.int .i64 (-2147483648))), (.c (.int .i64 4294967295))], none⟩,
        ⟨(some 18), none, .not (.t 17), none⟩] (some [1, 3, 18])) (
      .ite (.t 18) (
        .seq (.reg false [
          ⟨(some 2), none, .mv false (.c (.bool false)), none⟩] (some [2])) (
        .ret)) (
        .skip)))) (
    .reg false [
      ⟨(some 10), none, .mv false (.t 3), none⟩,
      ⟨(some 11), none, .bin .add .i64 (.t 10) (.c (.int .i64 1)), none⟩,
      ⟨(some 3), none, .mv false (.t 11), none⟩] (some [1, 3]))))))) (
.seq (.reg false [
  ⟨(some 19), none, .fld 2 (.t 1), none⟩,
  ⟨(some 20), none, .ld none (.t 19), none⟩,
  ⟨(some 4), none, .mv false (.t 20), none⟩] (some [1, 4])) (
.seq (.seq (.reg false [
  ⟨(some 21), none, .fld 1 (.t 1), none⟩,
  ⟨(some 22), none, .ld none (.t 21), none⟩] (some [4, 22])) (
.blk 2 (
  .seq (.reg false [
    ⟨(some 24), none, .bin .eql .i64 (.t 22) (.c (.int .i64 0)), none⟩,
    ⟨(some 23), none, .mv false (.t 24), none⟩] (some [4, 22, 23])) (
  .ite (.t 23) (
    .seq (.reg false [
      ⟨(some 25), none, .mv false (.t 4), none⟩,
      ⟨(some 26), none, .ixs 1 (.t 25) (.c (.int .i64 0)), none⟩,
      ⟨(some 27), none, .ld none (.t 26), none⟩,
      ⟨(some 28), none, .call false 46 [(.t 27), (.c (.int .i64 1)), (.c (.int .i64 128))], none⟩,
      ⟨(some 29), none, .mv false (.t 28), none⟩,
      ⟨(some 30), some (29, true), .mv false (.t 4), none⟩,
      ⟨(some 31), some (29, true), .ixs 1 (.t 30) (.c (.int .i64 1)), none⟩,
      ⟨(some 32), some (29, true), .ld none (.t 31), none⟩,
      ⟨(some 33), some (29, true), .call false 46 [(.t 32), (.c (.int .i64 1)), (.c (.int .i64 128))], none⟩,
      ⟨(some 34), none, .pick (.t 29) (.t 33) (.c (.bool false)), none⟩,
      ⟨(some 2), none, .mv false (.t 34), none⟩] (some [2])) (
    .ret)) (
    .seq (.reg false [
      ⟨(some 36), none, .bin .eql .i64 (.t 22) (.c (.int .i64 1)), none⟩,
      ⟨(some 35), none, .mv false (.t 36), none⟩] (some [4, 22, 35])) (
    .ite (.t 35) (
      .seq (.reg false [
        ⟨(some 37), none, .mv false (.t 4), none⟩,
        ⟨(some 38), none, .ixs 1 (.t 37) (.c (.int .i64 0)), none⟩,
        ⟨(some 39), none, .ld none (.t 38), none⟩,
        ⟨(some 40), none, .call false 46 [(.t 39), (.c (.int .i64 0)), (.c (.int .i64 1))], none⟩,
        ⟨(some 41), none, .mv false (.t 40), none⟩,
        ⟨(some 42), some (41, true), .mv false (.t 4), none⟩,
        ⟨(some 43), some (41, true), .ixs 1 (.t 42) (.c (.int .i64 1)), none⟩,
        ⟨(some 44), some (41, true), .ld none (.t 43), none⟩,
        ⟨(some 45), some (41, true), .call false 46 [(.t 44), (.c (.int .i64 0)), (.c (.int .i64 1))], none⟩,
        ⟨(some 46), none, .pick (.t 41) (.t 45) (.c (.bool false)), none⟩,
        ⟨(some 2), none, .mv false (.t 46), none⟩] (some [2])) (
      .ret)) (
      .seq (.seq (.reg false [
        ⟨(some 48), none, .bin .eql .i64 (.t 22) (.c (.int .i64 2)), none⟩,
        ⟨(some 47), none, .mv false (.t 48), none⟩] (some [4, 22, 47])) (
      .ite (.t 47) (
        .skip) (
        .reg false [
          ⟨(some 49), none, .bin .eql .i64 (.t 22) (.c (.int .i64 3)), none⟩,
          ⟨(some 47), none, .mv false (.t 49), none⟩] (some [4, 22, 47])))) (
      .ite (.t 47) (
        .seq (.reg false [
          ⟨(some 50), none, .mv false (.t 4), none⟩,
          ⟨(some 51), none, .ixs 1 (.t 50) (.c (.int .i64 0)), none⟩,
          ⟨(some 52), none, .ld none (.t 51), none⟩,
          ⟨(some 53), none, .call false 46 [(.t 52), (.c (.int .i64 1)), (.c (.int .i64 8))], none⟩,
          ⟨(some 54), none, .mv false (.t 53), none⟩,
          ⟨(some 55), some (54, true), .mv false (.t 4), none⟩,
          ⟨(some 56), some (54, true), .ixs 1 (.t 55) (.c (.int .i64 1)), none⟩,
          ⟨(some 57), some (54, true), .ld none (.t 56), none⟩,
          ⟨(some 58), some (54, true), .call false 46 [(.t 57), (.c (.int .i64 0)), (.c (.int .i64 255))], none⟩,
          ⟨(some 59), none, .pick (.t 54) (.t 58) (.c (.bool false)), none⟩,
          ⟨(some 2), none, .mv false (.t 59), none⟩] (some [2])) (
        .ret)) (
        .seq (.reg false [
          ⟨(some 61), none, .bin .eql .i64 (.t 22) (.c (.int .i64 4)), none⟩,
          ⟨(some 60), none, .mv false (.t 61), none⟩] (some [4, 22, 60])) (
        .ite (.t 60) (
          .seq (.reg false [
            ⟨(some 62), none, .mv false (.t 4), none⟩,
            ⟨(some 63), none, .ixs 1 (.t 62) (.c (.int .i64 0)), none⟩,
            ⟨(some 64), none, .ld none (.t 63), none⟩,
            ⟨(some 65), none, .call false 46 [(.t 64), (.c (.int .i64 1)), (.c (.int .i64 8))], none⟩,
            ⟨(some 66), none, .mv false (.t 65), none⟩,
            ⟨(some 67), some (66, true), .mv false (.t 4), none⟩,
            ⟨(some 68), some (66, true), .ixs 1 (.t 67) (.c (.int .i64 1)), none⟩,
            ⟨(some 69), some (66, true), .ld none (.t 68), none⟩,
            ⟨(some 70), some (66, true), .call false 46 [(.t 69), (.c (.int .i64 0)), (.c (.int .i64 255))], none⟩,
            ⟨(some 71), none, .pick (.t 66) (.t 70) (.c (.bool false)), none⟩,
            ⟨(some 72), none, .mv false (.t 71), none⟩,
            ⟨(some 73), some (72, true), .mv false (.t 4), none⟩,
            ⟨(some 74), some (72, true), .ixs 1 (.t 73) (.c (.int .i64 2)), none⟩,
            ⟨(some 75), some (72, true), .ld none (.t 74), none⟩,
            ⟨(some 76), some (72, true), .mv false (.t 4), none⟩,
            ⟨(some 77), some (72, true), .len false (.t 76), none⟩,
            ⟨(some 78), some (72, true), .bin .sub .i64 (.t 77) (.c (.int .i64 3)), none⟩,
            ⟨(some 79), some (72, true), .call false 46 [(.t 75), (.c (.int .i64 0)), (.t 78)], none⟩,
            ⟨(some 80), none, .pick (.t 72) (.t 79) (.c (.bool false)), none⟩,
            ⟨(some 2), none, .mv false (.t 80), none⟩] (some [2])) (
          .ret)) (
          .seq (.seq (.reg false [
            ⟨(some 82), none, .bin .eql .i64 (.t 22) (.c (.int .i64 5)), none⟩,
            ⟨(some 81), none, .mv false (.t 82), none⟩] (some [4, 22, 81])) (
          .ite (.t 81) (
            .skip) (
            .seq (.reg false [
              ⟨(some 83), none, .bin .eql .i64 (.t 22) (.c (.int .i64 8)), none⟩,
              ⟨(some 81), none, .mv false (.t 83), none⟩] (some [4, 22, 81])) (
            .ite (.t 81) (
              .skip) (
              .seq (.reg false [
                ⟨(some 84), none, .bin .eql .i64 (.t 22) (.c (.int .i64 10)), none⟩,
                ⟨(some 81), none, .mv false (.t 84), none⟩] (some [4, 22, 81])) (
              .ite (.t 81) (
                .skip) (
                .seq (.reg false [
                  ⟨(some 85), none, .bin .eql .i64 (.t 22) (.c (.int .i64 11)), none⟩,
                  ⟨(some 81), none, .mv false (.t 85), none⟩] (some [4, 22, 81])) (
                .ite (.t 81) (
                  .skip) (
                  .reg false [
                    ⟨(some 86), none, .bin .eql .i64 (.t 22) (.c (.int .i64 12)), none⟩,
                    ⟨(some 81), none, .mv false (.t 86), none⟩] (some [4, 22, 81])))))))))) (
          .ite (.t 81) (
            .seq (.reg false [
              ⟨(some 87), none, .mv false (.t 4), none⟩,
              ⟨(some 88), none, .ixs 1 (.t 87) (.c (.int .i64 0)), none⟩,
              ⟨(some 89), none, .ld none (.t 88), none⟩,
              ⟨(some 90), none, .call false 46 [(.t 89), (.c (.int .i64 1)), (.c (.int .i64 8))], none⟩,
              ⟨(some 2), none, .mv false (.t 90), none⟩] (some [2])) (
            .ret)) (
            .seq (.reg false [
              ⟨(some 92), none, .bin .eql .i64 (.t 22) (.c (.int .i64 6)), none⟩,
              ⟨(some 91), none, .mv false (.t 92), none⟩] (some [4, 22, 91])) (
            .ite (.t 91) (
              .seq (.reg false [
                ⟨(some 93), none, .mv false (.t 4), none⟩,
                ⟨(some 94), none, .ixs 1 (.t 93) (.c (.int .i64 0)), none⟩,
                ⟨(some 95), none, .ld none (.t 94), none⟩,
                ⟨(some 96), none, .call false 46 [(.t 95), (.c (.int .i64 1)), (.c (.int .i64 8))], none⟩,
                ⟨(some 97), none, .mv false (.t 96), none⟩,
                ⟨(some 98), some (97, true), .mv false (.t 4), none⟩,
                ⟨(some 99), some (97, true), .ixs 1 (.t 98) (.c (.int .i64 1)), none⟩,
                ⟨(some 100), some (97, true), .ld none (.t 99), none⟩,
                ⟨(some 101), some (97, true), .call false 46 [(.t 100), (.c (.int .i64 1)), (.c (.int .i64 65536))], none⟩,
                ⟨(some 102), none, .pick (.t 97) (.t 101) (.c (.bool false)), none⟩,
                ⟨(some 2), none, .mv false (.t 102), none⟩] (some [2])) (
              .ret)) (
              .seq (.reg false [
                ⟨(some 104), none, .bin .eql .i64 (.t 22) (.c (.int .i64 13)), none⟩,
                ⟨(some 103), none, .mv false (.t 104), none⟩] (some [4, 103])) (
              .ite (.t 103) (
                .seq (.reg false [
                  ⟨(some 105), none, .mv false (.t 4), none⟩,
                  ⟨(some 106), none, .ixs 1 (.t 105) (.c (.int .i64 0)), none⟩,
                  ⟨(some 107), none, .ld none (.t 106), none⟩,
                  ⟨(some 108), none, .call false 46 [(.t 107), (.c (.int .i64 1)), (.c (.int .i64 8))], none⟩,
                  ⟨(some 109), none, .mv false (.t 108), none⟩,
                  ⟨(some 110), some (109, true), .mv false (.t 4), none⟩,
                  ⟨(some 111), some (109, true), .ixs 1 (.t 110) (.c (.int .i64 1)), none⟩,
                  ⟨(some 112), some (109, true), .ld none (.t 111), none⟩,
                  ⟨(some 113), some (109, true), .call false 46 [(.t 112), (.c (.int .i64 0)), (.c (.int .i64 4))], none⟩,
                  ⟨(some 114), none, .pick (.t 109) (.t 113) (.c (.bool false)), none⟩,
                  ⟨(some 2), none, .mv false (.t 114), none⟩] (some [2])) (
                .ret)) (
                .skip))))))))))))))))) (
.seq (.reg false [
  ⟨(some 2), none, .mv false (.c (.bool true)), none⟩] (some [2])) (
.ret)))))
set_option maxRecDepth 1000000 in
theorem comp_ref63_bounds : (Tryd.f31.body.bind fun code => compC Tryd.prog Tryd.f31.ntmps code c_ref63_bounds) = some c_ref63_bounds.bare := by kernel_rfl
def r_ref63_bounds : List R := [.t 2]
theorem spo_ref63_bounds {ds : List D} {d : D} (hn : Nat.ble ds.length 115 = true) (h : run TSpC gtab 0 c_ref63_bounds (retK r_ref63_bounds (· = d)) ⟨env0 0 ds, []⟩) : TSp 31 ds d := Sp_of mixed c_ref63_bounds r_ref63_bounds (fn := Tryd.f31) (by kernel_rfl) (by kernel_rfl) comp_ref63_bounds (by kernel_rfl) hn h
theorem spm_ref63_bounds {ds : List D} {d : D} {bx bx' : List Ent} (hn : Nat.ble ds.length 115 = true) (h : run TSpC gtab (sizeE bx) c_ref63_bounds (retG r_ref63_bounds (fun d1 bx1 => Rt (sizeE bx) bx1 d1 d bx')) ⟨env0 0 ds, bx⟩) : TSpM 31 ds bx d bx' := SpM_of mixed c_ref63_bounds r_ref63_bounds (fn := Tryd.f31) (by kernel_rfl) (by kernel_rfl) comp_ref63_bounds (by kernel_rfl) hn h
/-- glazier/glazierref63.line -/
def c_ref63_line : C := .seq (.reg false [
  ⟨(some 1), none, .box true (.t 0), none⟩,
  ⟨(some 2), none, .mv false (.c (.str [])), none⟩] (some [1])) (
.seq (.reg true [
  ⟨(some 5), none, .call false 18 [], none⟩,
  ⟨(some 6), none, .fld 1 (.t 1), none⟩,
  ⟨(some 7), none, .ld none (.t 6), none⟩,
  ⟨(some 8), none, .ixs 1 (.t 5) (.t 7), none⟩,
  ⟨(some 9), none, .ld none (.t 8), none⟩,
  ⟨(some 3), none, .mv false (.t 9), none⟩] (some [1, 3])) (
.seq (.seq (.reg false [
  ⟨(some 10), none, .fld 1 (.t 1), none⟩,
  ⟨(some 11), none, .ld none (.t 10), none⟩,
  ⟨(some 12), none, .bin .eql .i64 (.t 11) (.c (.int .i64 1)), none⟩] (some [1, 3, 12])) (
.ite (.t 12) (
  .reg false [
    ⟨(some 13), none, .mv false (.t 3), none⟩,
    ⟨(some 14), none, .cat (.t 13) (.c (.str [32])), none⟩,
    ⟨(some 15), none, .fld 3 (.t 1), none⟩,
    ⟨(some 16), none, .ld none (.t 15), none⟩,
    ⟨(some 17), none, .ixs 1 (.t 16) (.c (.int .i64 0)), none⟩,
    ⟨(some 18), none, .ld none (.t 17), none⟩,
    ⟨(some 19), none, .cat (.t 14) (.t 18), none⟩,
    ⟨(some 3), none, .mv false (.t 19), none⟩] (some [1, 3])) (
  .skip))) (
.seq (.seq (.reg false [
  ⟨(some 4), none, .mv false (.c (.int .i64 0)), none⟩] (some [1, 3, 4])) (
.blk 0 (
  .loop (
    .seq (.seq (.reg false [
      ⟨(some 20), none, .mv false (.t 4), none⟩,
      ⟨(some 21), none, .fld 2 (.t 1), none⟩,
      ⟨(some 22), none, .ld none (.t 21), none⟩,
      ⟨(some 23), none, .len false (.t 22), none⟩,
      ⟨(some 24), none, .bin .lss .i64 (.t 20) (.t 23), none⟩] (some [1, 3, 4, 24])) (
    .ite (.t 24) (
      .skip) (
      .exit 0))) (
    .seq (.blk 1 (
      .seq (.seq (.reg false [
        ⟨(some 27), none, .fld 1 (.t 1), none⟩,
        ⟨(some 28), none, .ld none (.t 27), none⟩,
        ⟨(some 29), none, .bin .eql .i64 (.t 28) (.c (.int .i64 3)), none⟩,
        ⟨(some 30), none, .mv false (.t 29), none⟩,
        ⟨(some 31), some (30, true), .mv false (.t 4), none⟩,
        ⟨(some 32), some (30, true), .bin .eql .i64 (.t 31) (.c (.int .i64 2)), none⟩,
        ⟨(some 33), none, .pick (.t 30) (.t 32) (.c (.bool false)), none⟩] (some [1, 3, 4, 33])) (
      .ite (.t 33) (
        .reg false [
          ⟨(some 34), none, .mv false (.t 3), none⟩,
          ⟨(some 35), none, .cat (.t 34) (.c (.str [32])), none⟩,
          ⟨(some 36), none, .fld 3 (.t 1), none⟩,
          ⟨(some 37), none, .ld none (.t 36), none⟩,
          ⟨(some 38), none, .ixs 1 (.t 37) (.c (.int .i64 0)), none⟩,
          ⟨(some 39), none, .ld none (.t 38), none⟩,
          ⟨(some 40), none, .cat (.t 35) (.t 39), none⟩,
          ⟨(some 3), none, .mv false (.t 40), none⟩] (some [1, 3, 4])) (
        .skip))) (
      .reg false [
        ⟨(some 41), none, .mv false (.t 3), none⟩,
        ⟨(some 42), none, .cat (.t 41) (.c (.str [32])), none⟩,
        ⟨(some 43), none, .fld 2 (.t 1), none⟩,
        ⟨(some 44), none, .ld none (.t 43), none⟩,
        ⟨(some 45), none, .mv false (.t 4), none⟩,
        ⟨(some 46), none, .ixs 1 (.t 44) (.t 45), none⟩,
        ⟨(some 47), none, .ld none (.t 46), none⟩,
        ⟨(some 48), none, .call false 47 [(.t 47)], none⟩,
        ⟨(some 49), none, .cat (.t 42) (.t 48), none⟩,
        ⟨(some 3), none, .mv false (.t 49), none⟩] (some [1, 3, 4])))) (
    .reg false [
      ⟨(some 25), none, .mv false (.t 4), none⟩,
      ⟨(some 26), none, .bin .add .i64 (.t 25) (.c (.int .i64 1)), none⟩,
      ⟨(some 4), none, .mv false (.t 26), none⟩] (some [1, 3, 4]))))))) (
.seq (.seq (.reg false [
  ⟨(some 50), none, .fld 1 (.t 1), none⟩,
  ⟨(some 51), none, .ld none (.t 50), none⟩,
  ⟨(some 52), none, .bin .eql .i64 (.t 51) (.c (.int .i64 5)), none⟩,
  ⟨(some 53), none, .mv false (.t 52), none⟩,
  ⟨(some 54), some (53, false), .fld 1 (.t 1), none⟩,
  ⟨(some 55), some (53, false), .ld none (.t 54), none⟩,
  ⟨(some 56), some (53, false), .bin .eql .i64 (.t 55) (.c (.int .i64 12)), none⟩,
  ⟨(some 57), none, .pick (.t 53) (.c (.bool true)) (.t 56), none⟩,
  ⟨(some 58), none, .mv false (.t 57), none⟩,
  ⟨(some 59), some (58, false), .fld 1 (.t 1), none⟩,
  ⟨(some 60), some (58, false), .ld none (.t 59), none⟩,
  ⟨(some 61), some (58, false), .bin .eql .i64 (.t 60) (.c (.int .i64 3)), none⟩,
  ⟨(some 62), some (58, false), .mv false (.t 61), none⟩,
  ⟨(some 63), some (62, true), .fld 2 (.t 1), none⟩,
  ⟨(some 64), some (62, true), .ld none (.t 63), none⟩,
  ⟨(some 65), some (62, true), .len false (.t 64), none⟩,
  ⟨(some 66), some (62, true), .bin .eql .i64 (.t 65) (.c (.int .i64 2)), none⟩,
  ⟨(some 67), some (58, false), .pick (.t 62) (.t 66) (.c (.bool false)), none⟩,
  ⟨(some 68), none, .pick (.t 58) (.c (.bool true)) (.t 67), none⟩] (some [1, 3, 68])) (
.ite (.t 68) (
  .reg false [
    ⟨(some 69), none, .mv false (.t 3), none⟩,
    ⟨(some 70), none, .cat (.t 69) (.c (.str [32])), none⟩,
    ⟨(some 71), none, .fld 3 (.t 1), none⟩,
    ⟨(some 72), none, .ld none (.t 71), none⟩,
    ⟨(some 73), none, .ixs 1 (.t 72) (.c (.int .i64 0)), none⟩,
    ⟨(some 74), none, .ld none (.t 73), none⟩,
    ⟨(some 75), none, .cat (.t 70) (.t 74), none⟩,
    ⟨(some 3), none, .mv false (.t 75), none⟩] (some [3])) (
  .skip))) (
.seq (.reg false [
  ⟨(some 76), none, .mv false (.t 3), none⟩,
  ⟨(some 77), none, .cat (.t 76) (.c (.str [10])), none⟩,
  ⟨(some 2), none, .mv false (.t 77), none⟩] (some [2])) (
.ret))))))
set_option maxRecDepth 1000000 in
theorem comp_ref63_line : (Tryd.f32.body.bind fun code => compC Tryd.prog Tryd.f32.ntmps code c_ref63_line) = some c_ref63_line.bare := by kernel_rfl
def r_ref63_line : List R := [.t 2]
theorem spo_ref63_line {ds : List D} {d : D} (hn : Nat.ble ds.length 78 = true) (h : run TSpC gtab 0 c_ref63_line (retK r_ref63_line (· = d)) ⟨env0 0 ds, []⟩) : TSp 32 ds d := Sp_of mixed c_ref63_line r_ref63_line (fn := Tryd.f32) (by kernel_rfl) (by kernel_rfl) comp_ref63_line (by kernel_rfl) hn h
theorem spm_ref63_line {ds : List D} {d : D} {bx bx' : List Ent} (hn : Nat.ble ds.length 78 = true) (h : run TSpC gtab (sizeE bx) c_ref63_line (retG r_ref63_line (fun d1 bx1 => Rt (sizeE bx) bx1 d1 d bx')) ⟨env0 0 ds, bx⟩) : TSpM 32 ds bx d bx' := SpM_of mixed c_ref63_line r_ref63_line (fn := Tryd.f32) (by kernel_rfl) (by kernel_rfl) comp_ref63_line (by kernel_rfl) hn h
/-- strings.genSplit -/
def c_strings_genSplit : C := .seq (.reg false [
  ⟨(some 8), none, .nilS 9 1, none⟩] (some [0, 1, 2, 3])) (
.seq (.seq (.reg false [
  ⟨(some 12), none, .mv false (.t 3), none⟩,
  ⟨(some 13), none, .bin .eql .i64 (.t 12) (.c (.int .i64 0)), none⟩] (some [0, 1, 2, 3, 13])) (
.ite (.t 13) (
  .seq (.reg false [
    ⟨(some 8), none, .nilS 9 1, none⟩] (some [8])) (
  .ret)) (
  .skip))) (
.seq (.seq (.reg false [
  ⟨(some 14), none, .mv false (.t 1), none⟩,
  ⟨(some 15), none, .eqb false true (.t 14) (.c (.str [])), none⟩] (some [0, 1, 2, 3, 15])) (
.ite (.t 15) (
  .seq (.reg false [
    ⟨(some 16), none, .mv false (.t 0), none⟩,
    ⟨(some 17), none, .mv false (.t 3), none⟩,
    ⟨(some 18), none, .call false 48 [(.t 16), (.t 17)], none⟩,
    ⟨(some 8), none, .mv false (.t 18), none⟩] (some [8])) (
  .ret)) (
  .skip))) (
.seq (.seq (.reg false [
  ⟨(some 19), none, .mv false (.t 3), none⟩,
  ⟨(some 20), none, .bin .lss .i64 (.t 19) (.c (.int .i64 0)), none⟩] (some [0, 1, 2, 3, 20])) (
.ite (.t 20) (
  .reg false [
    ⟨(some 21), none, .mv false (.t 0), none⟩,
    ⟨(some 22), none, .mv false (.t 1), none⟩,
    ⟨(some 23), none, .call false 49 [(.t 21), (.t 22)], none⟩,
    ⟨(some 24), none, .bin .add .i64 (.t 23) (.c (.int .i64 1)), none⟩,
    ⟨(some 3), none, .mv false (.t 24), none⟩] (some [0, 1, 2, 3])) (
  .skip))) (
.seq (.reg false [
  ⟨(some 25), none, .mv false (.t 3), none⟩,
  ⟨(some 26), none, .mv false (.t 0), none⟩,
  ⟨(some 27), none, .len true (.t 26), none⟩,
  ⟨(some 28), none, .bin .add .i64 (.t 27) (.c (.int .i64 1)), none⟩,
  ⟨(some 29), none, .mn (.t 25) (.t 28), none⟩,
  ⟨(some 3), none, .mv false (.t 29), none⟩] (some [0, 1, 2, 3])) (
.seq (.reg false [
  ⟨(some 30), none, .mv false (.t 3), none⟩,
  ⟨(some 31), none, .mks 9 1 none [(.str [])] (.t 30) (.t 30), none⟩,
  ⟨(some 9), none, .mv false (.t 31), none⟩] (some [0, 1, 2, 3, 9])) (
.seq (.reg false [
  ⟨(some 32), none, .mv false (.t 3), none⟩,
  ⟨(some 33), none, .bin .sub .i64 (.t 32) (.c (.int .i64 1)), none⟩,
  ⟨(some 3), none, .mv false (.t 33), none⟩] (some [0, 1, 2, 3, 9])) (
.seq (.reg false [
  ⟨(some 10), none, .mv false (.c (.int .i64 0)), none⟩] (some [0, 1, 2, 3, 9, 10])) (
.seq (.blk 0 (
  .loop (
    .seq (.seq (.reg false [
      ⟨(some 34), none, .mv false (.t 10), none⟩,
      ⟨(some 35), none, .mv false (.t 3), none⟩,
      ⟨(some 36), none, .bin .lss .i64 (.t 34) (.t 35), none⟩] (some [0, 1, 2, 3, 9, 10, 36])) (
    .ite (.t 36) (
      .skip) (
      .exit 0))) (
    .blk 1 (
      .seq (.reg false [
        ⟨(some 37), none, .mv false (.t 0), none⟩,
        ⟨(some 38), none, .mv false (.t 1), none⟩,
        ⟨(some 39), none, .call false 50 [(.t 37), (.t 38)], none⟩,
        ⟨(some 11), none, .mv false (.t 39), none⟩] (some [0, 1, 2, 3, 9, 10, 11])) (
      .seq (.seq (.reg false [
        ⟨(some 40), none, .mv false (.t 11), none⟩,
        ⟨(some 41), none, .bin .lss .i64 (.t 40) (.c (.int .i64 0)), none⟩] (some [0, 1, 2, 3, 9, 10, 11, 41])) (
      .ite (.t 41) (
        .exit 0) (
        .skip))) (
      .seq (.reg false [
        ⟨(some 42), none, .mv false (.t 9), none⟩,
        ⟨(some 43), none, .mv false (.t 10), none⟩,
        ⟨(some 44), none, .mv false (.t 0), none⟩,
        ⟨(some 45), none, .mv false (.t 11), none⟩,
        ⟨(some 46), none, .mv false (.t 2), none⟩,
        ⟨(some 47), none, .bin .add .i64 (.t 45) (.t 46), none⟩,
        ⟨(some 48), none, .sst (.t 44) none (some (.t 47)), none⟩,
        ⟨(some 49), none, .ixs 1 (.t 42) (.t 43), none⟩,
        ⟨none, none, .st none (.t 49) (.t 48), none⟩] (some [0, 1, 2, 3, 9, 10, 11])) (
      .seq (.reg false [
        ⟨(some 50), none, .mv false (.t 0), none⟩,
        ⟨(some 51), none, .mv false (.t 11), none⟩,
        ⟨(some 52), none, .mv false (.t 1), none⟩,
        ⟨(some 53), none, .len true (.t 52), none⟩,
        ⟨(some 54), none, .bin .add .i64 (.t 51) (.t 53), none⟩,
        ⟨(some 55), none, .sst (.t 50) (some (.t 54)) none, none⟩,
        ⟨(some 0), none, .mv false (.t 55), none⟩] (some [0, 1, 2, 3, 9, 10])) (
      .reg false [
        ⟨(some 56), none, .mv false (.t 10), none⟩,
        ⟨(some 57), none, .bin .add .i64 (.t 56) (.c (.int .i64 1)), none⟩,
        ⟨(some 10), none, .mv false (.t 57), none⟩] (some [0, 1, 2, 3, 9, 10])))))))))) (
.seq (.reg false [
  ⟨(some 58), none, .mv false (.t 9), none⟩,
  ⟨(some 59), none, .mv false (.t 10), none⟩,
  ⟨(some 60), none, .mv false (.t 0), none⟩,
  ⟨(some 61), none, .ixs 1 (.t 58) (.t 59), none⟩,
  ⟨none, none, .st none (.t 61) (.t 60), none⟩] (some [9, 10])) (
.seq (.reg false [
  ⟨(some 62), none, .mv false (.t 9), none⟩,
  ⟨(some 63), none, .mv false (.t 10), none⟩,
  ⟨(some 64), none, .bin .add .i64 (.t 63) (.c (.int .i64 1)), none⟩,
  ⟨(some 65), none, .sls true 1 (.t 62) none (some (.t 64)), none⟩,
  ⟨(some 8), none, .mv false (.t 65), none⟩] (some [8])) (
.ret)))))))))))
set_option maxRecDepth 1000000 in
theorem comp_strings_genSplit : (Tryd.f33.body.bind fun code => compC Tryd.prog Tryd.f33.ntmps code c_strings_genSplit) = some c_strings_genSplit.bare := by kernel_rfl
def r_strings_genSplit : List R := [.t 8]
theorem spo_strings_genSplit {ds : List D} {d : D} (hn : Nat.ble ds.length 66 = true) (h : run TSpC gtab 0 c_strings_genSplit (retK r_strings_genSplit (· = d)) ⟨env0 0 ds, []⟩) : TSp 33 ds d := Sp_of mixed c_strings_genSplit r_strings_genSplit (fn := Tryd.f33) (by kernel_rfl) (by kernel_rfl) comp_strings_genSplit (by kernel_rfl) hn h
theorem spm_strings_genSplit {ds : List D} {d : D} {bx bx' : List Ent} (hn : Nat.ble ds.length 66 = true) (h : run TSpC gtab (sizeE bx) c_strings_genSplit (retG r_strings_genSplit (fun d1 bx1 => Rt (sizeE bx) bx1 d1 d bx')) ⟨env0 0 ds, bx⟩) : TSpM 33 ds bx d bx' := SpM_of mixed c_strings_genSplit r_strings_genSplit (fn := Tryd.f33) (by kernel_rfl) (by kernel_rfl) comp_strings_genSplit (by kernel_rfl) hn h
/-- glazier/script.find -/
def c_script_find : C := .seq (.reg false [
  ⟨(some 2), none, .mv false (.c (.int .i64 0)), none⟩,
  ⟨(some 3), none, .mv false (.c (.bool false)), none⟩] (some [0])) (
.seq (.seq (.reg false [
  ⟨(some 6), none, .ld (some 80) (.c (.glob 0 0)), none⟩,
  ⟨(some 7), none, .mv false (.c (.int .i64 0)), none⟩] (some [0, 6, 7])) (
.blk 0 (
  .loop (
    .seq (.reg false [
      ⟨(some 8), none, .bin .lss .i64 (.t 7) (.c (.int .i64 16)), none⟩] (some [0, 6, 7, 8])) (
    .seq (.ite (.t 8) (
      .skip) (
      .exit 0)) (
    .seq (.blk 1 (
      .seq (.reg false [
        ⟨(some 9), none, .mv false (.t 7), none⟩,
        ⟨(some 10), none, .ixv 16 5 (some 5) (.t 6) (.t 7), none⟩,
        ⟨(some 5), none, .alloc [(.str []), (.int .i64 0), (.int .i64 0), (.int .i64 0), (.int .i64 0)], none⟩,
        ⟨(some 4), none, .mv false (.t 9), none⟩,
        ⟨none, none, .st (some 5) (.t 5) (.t 10), none⟩] (some [0, 4, 5, 6, 7])) (
      .seq (.reg false [
        ⟨(some 11), none, .fld 0 (.t 5), none⟩,
        ⟨(some 12), none, .ld none (.t 11), none⟩,
        ⟨(some 13), none, .mv false (.t 0), none⟩,
        ⟨(some 14), none, .eqb false true (.t 12) (.t 13), none⟩] (some [0, 4, 6, 7, 14])) (
      .ite (.t 14) (
        .seq (.reg false [
          ⟨(some 15), none, .mv false (.t 4), none⟩,
          ⟨(some 2), none, .mv false (.t 15), none⟩,
          ⟨(some 3), none, .mv false (.c (.bool true)), none⟩] (some [2, 3])) (
        .ret)) (
        .skip))))) (
    .reg false [
      ⟨(some 16), none, .bin .add .i64 (.t 7) (.c (.int .i64 1)), none⟩,
      ⟨(some 7), none, .mv false (.t 16), none⟩] (some [0, 6, 7])))))))) (
.seq (.reg false [
  ⟨(some 2), none, .mv false (.c (.int .i64 0)), none⟩,
  ⟨(some 3), none, .mv false (.c (.bool false)), none⟩] (some [2, 3])) (
.ret)))
set_option maxRecDepth 1000000 in
theorem comp_script_find : (Tryd.f34.body.bind fun code => compC Tryd.prog Tryd.f34.ntmps code c_script_find) = some c_script_find.bare := by kernel_rfl
def r_script_find : List R := [.t 2, .t 3]
theorem spo_script_find {ds : List D} {d : D} (hn : Nat.ble ds.length 17 = true) (h : run TSpC gtab 0 c_script_find (retK r_script_find (· = d)) ⟨env0 0 ds, []⟩) : TSp 34 ds d := Sp_of mixed c_script_find r_script_find (fn := Tryd.f34) (by kernel_rfl) (by kernel_rfl) comp_script_find (by kernel_rfl) hn h
theorem spm_script_find {ds : List D} {d : D} {bx bx' : List Ent} (hn : Nat.ble ds.length 17 = true) (h : run TSpC gtab (sizeE bx) c_script_find (retG r_script_find (fun d1 bx1 => Rt (sizeE bx) bx1 d1 d bx')) ⟨env0 0 ds, bx⟩) : TSpM 34 ds bx d bx' := SpM_of mixed c_script_find r_script_find (fn := Tryd.f34) (by kernel_rfl) (by kernel_rfl) comp_script_find (by kernel_rfl) hn h
/-- strings.Clone -/
def c_strings_Clone : C := .seq (.reg false [
  ⟨(some 2), none, .mv false (.c (.str [])), none⟩] (some [0])) (
.seq (.reg false [
  ⟨(some 3), none, .mv false (.t 0), none⟩,
  ⟨(some 4), none, .call false 51 [(.t 3)], none⟩,
  ⟨(some 2), none, .mv false (.t 4), none⟩] (some [2])) (
.ret))
set_option maxRecDepth 1000000 in
theorem comp_strings_Clone : (Tryd.f35.body.bind fun code => compC Tryd.prog Tryd.f35.ntmps code c_strings_Clone) = some c_strings_Clone.bare := by kernel_rfl
def r_strings_Clone : List R := [.t 2]
theorem spo_strings_Clone {ds : List D} {d : D} (hn : Nat.ble ds.length 5 = true) (h : run TSpC gtab 0 c_strings_Clone (retK r_strings_Clone (· = d)) ⟨env0 0 ds, []⟩) : TSp 35 ds d := Sp_of mixed c_strings_Clone r_strings_Clone (fn := Tryd.f35) (by kernel_rfl) (by kernel_rfl) comp_strings_Clone (by kernel_rfl) hn h
theorem spm_strings_Clone {ds : List D} {d : D} {bx bx' : List Ent} (hn : Nat.ble ds.length 5 = true) (h : run TSpC gtab (sizeE bx) c_strings_Clone (retG r_strings_Clone (fun d1 bx1 => Rt (sizeE bx) bx1 d1 d bx')) ⟨env0 0 ds, bx⟩) : TSpM 35 ds bx d bx' := SpM_of mixed c_strings_Clone r_strings_Clone (fn := Tryd.f35) (by kernel_rfl) (by kernel_rfl) comp_strings_Clone (by kernel_rfl) hn h
/-- glazier/script.number -/
def c_script_number : C := .seq (.reg false [
  ⟨(some 2), none, .mv false (.c (.int .i64 0)), none⟩,
  ⟨(some 3), none, .mv false (.c (.bool false)), none⟩] (some [0])) (
.seq (.reg false [
  ⟨(some 10), none, .mv false (.t 0), none⟩,
  ⟨(some 11), none, .call false 52 [(.t 10), (.c (.str [45]))], none⟩,
  ⟨(some 9), none, .mv false (.t 11), none⟩,
  ⟨(some 12), none, .ext (.t 9) 0, none⟩,
  ⟨(some 13), none, .ext (.t 9) 1, none⟩,
  ⟨(some 4), none, .mv false (.t 12), none⟩,
  ⟨(some 5), none, .mv false (.t 13), none⟩] (some [0, 4, 5])) (
.seq (.seq (.reg false [
  ⟨(some 14), none, .mv false (.t 4), none⟩,
  ⟨(some 15), none, .eqb false true (.t 14) (.c (.str [])), none⟩,
  ⟨(some 16), none, .mv false (.t 15), none⟩,
  ⟨(some 17), some (16, false), .mv false (.t 4), none⟩,
  ⟨(some 18), some (16, false), .sidx (.t 17) (.c (.int .i64 0)), none⟩,
  ⟨(some 19), some (16, false), .bin .eql .u8 (.t 18) (.c (.int .u8 48)), none⟩,
  ⟨(some 20), some (16, false), .mv false (.t 19), none⟩,
  ⟨(some 21), some (20, true), .mv false (.t 5), none⟩,
  ⟨(some 22), some (20, true), .mv false (.t 21), none⟩,
  ⟨(some 23), some (22, false), .mv false (.t 4), none⟩,
  ⟨(some 24), some (22, false), .len true (.t 23), none⟩,
  ⟨(some 25), some (22, false), .bin .gtr .i64 (.t 24) (.c (.int .i64 1)), none⟩,
  ⟨(some 26), some (20, true), .pick (.t 22) (.c (.bool true)) (.t 25), none⟩,
  ⟨(some 27), some (16, false), .pick (.t 20) (.t 26) (.c (.bool false)), none⟩,
  ⟨(some 28), none, .pick (.t 16) (.c (.bool true)) (.t 27), none⟩] (some [0, 4, 28])) (
.ite (.t 28) (
  .seq (.reg false [
    ⟨(some 2), none, .mv false (.c (.int .i64 0)), none⟩,
    ⟨(some 3), none, .mv false (.c (.bool false)), none⟩] (some [2, 3])) (
  .ret)) (
  .skip))) (
.seq (.seq (.reg false [
  ⟨(some 29), none, .mv false (.t 4), none⟩,
  ⟨(some 30), none, .len true (.t 29), none⟩,
  ⟨(some 31), none, .mv false (.c (.int .i64 0)), none⟩] (some [0, 4, 30, 31])) (
.blk 0 (
  .loop (
    .seq (.reg false [
      ⟨(some 32), none, .bin .lss .i64 (.t 31) (.t 30), none⟩] (some [0, 4, 30, 31, 32])) (
    .seq (.ite (.t 32) (
      .skip) (
      .exit 0)) (
    .seq (.blk 1 (
      .seq (.reg false [
        ⟨(some 33), none, .mv false (.t 31), none⟩,
        ⟨(some 6), none, .mv false (.t 33), none⟩] (some [0, 4, 6, 30, 31])) (
      .seq (.reg false [
        ⟨(some 34), none, .mv false (.t 4), none⟩,
        ⟨(some 35), none, .mv false (.t 6), none⟩,
        ⟨(some 36), none, .sidx (.t 34) (.t 35), none⟩,
        ⟨(some 37), none, .bin .lss .u8 (.t 36) (.c (.int .u8 48)), none⟩,
        ⟨(some 38), none, .mv false (.t 37), none⟩,
        ⟨(some 39), some (38, false), .mv false (.t 4), none⟩,
        ⟨(some 40), some (38, false), .mv false (.t 6), none⟩,
        ⟨(some 41), some (38, false), .sidx (.t 39) (.t 40), none⟩,
        ⟨(some 42), some (38, false), .bin .gtr .u8 (.t 41) (.c (.int .u8 57)), none⟩,
        ⟨(some 43), none, .pick (.t 38) (.c (.bool true)) (.t 42), none⟩] (some [0, 4, 30, 31, 43])) (
      .ite (.t 43) (
        .seq (.reg false [
          ⟨(some 2), none, .mv false (.c (.int .i64 0)), none⟩,
          ⟨(some 3), none, .mv false (.c (.bool false)), none⟩] (some [2, 3])) (
        .ret)) (
        .skip))))) (
    .reg false [
      ⟨(some 44), none, .bin .add .i64 (.t 31) (.c (.int .i64 1)), none⟩,
      ⟨(some 31), none, .mv false (.t 44), none⟩] (some [0, 4, 30, 31])))))))) (
.seq (.reg false [
  ⟨(some 46), none, .mv false (.t 0), none⟩,
  ⟨(some 47), none, .call false 53 [(.t 46), (.c (.int .i64 10)), (.c (.int .i64 64))], none⟩,
  ⟨(some 45), none, .mv false (.t 47), none⟩,
  ⟨(some 48), none, .ext (.t 45) 0, none⟩,
  ⟨(some 49), none, .ext (.t 45) 1, none⟩,
  ⟨(some 7), none, .mv false (.t 48), none⟩,
  ⟨(some 8), none, .mv false (.t 49), none⟩] (some [7, 8])) (
.seq (.seq (.reg false [
  ⟨(some 50), none, .mv false (.t 8), none⟩,
  ⟨(some 51), none, .prm false false (.ilk true 62 62) [(.t 50)], none⟩] (some [7, 51])) (
.ite (.t 51) (
  .seq (.reg false [
    ⟨(some 2), none, .mv false (.c (.int .i64 9223372036854775807)), none⟩,
    ⟨(some 3), none, .mv false (.c (.bool true)), none⟩] (some [2, 3])) (
  .ret)) (
  .skip))) (
.seq (.reg false [
  ⟨(some 52), none, .mv false (.t 7), none⟩,
  ⟨(some 2), none, .mv false (.t 52), none⟩,
  ⟨(some 3), none, .mv false (.c (.bool true)), none⟩] (some [2, 3])) (
.ret)))))))
set_option maxRecDepth 1000000 in
theorem comp_script_number : (Tryd.f36.body.bind fun code => compC Tryd.prog Tryd.f36.ntmps code c_script_number) = some c_script_number.bare := by kernel_rfl
def r_script_number : List R := [.t 2, .t 3]
theorem spo_script_number {ds : List D} {d : D} (hn : Nat.ble ds.length 53 = true) (h : run TSpC gtab 0 c_script_number (retK r_script_number (· = d)) ⟨env0 0 ds, []⟩) : TSp 36 ds d := Sp_of mixed c_script_number r_script_number (fn := Tryd.f36) (by kernel_rfl) (by kernel_rfl) comp_script_number (by kernel_rfl) hn h
theorem spm_script_number {ds : List D} {d : D} {bx bx' : List Ent} (hn : Nat.ble ds.length 53 = true) (h : run TSpC gtab (sizeE bx) c_script_number (retG r_script_number (fun d1 bx1 => Rt (sizeE bx) bx1 d1 d bx')) ⟨env0 0 ds, bx⟩) : TSpM 36 ds bx d bx' := SpM_of mixed c_script_number r_script_number (fn := Tryd.f36) (by kernel_rfl) (by kernel_rfl) comp_script_number (by kernel_rfl) hn h
/-- glazier/script.bounds -/
def c_script_bounds : C := .seq (.reg false [
  ⟨(some 2), none, .nilS 82 2, none⟩] (some [0])) (
.seq (.reg false [
  ⟨(some 6), none, .bld [(.int .i64 0), (.int .i64 0)] [(0, none, (.c (.int .i64 1))), (1, none, (.c (.int .i64 8)))], none⟩,
  ⟨(some 7), none, .bld [(.int .i64 0), (.int .i64 0)] [(0, none, (.c (.int .i64 0))), (1, none, (.c (.int .i64 255)))], none⟩,
  ⟨(some 3), none, .alloc [(.int .i64 0), (.int .i64 0)], none⟩,
  ⟨(some 4), none, .alloc [(.int .i64 0), (.int .i64 0)], none⟩,
  ⟨none, none, .st (some 2) (.t 3) (.t 6), none⟩,
  ⟨none, none, .st (some 2) (.t 4) (.t 7), none⟩] (some [0, 3, 4])) (
.seq (.reg false [
  ⟨(some 8), none, .prm false true (.mkm 97) [], none⟩,
  ⟨(some 9), none, .bld [(.int .i64 0), (.int .i64 0)] [(0, none, (.c (.int .i64 1))), (1, none, (.c (.int .i64 128)))], none⟩,
  ⟨(some 10), none, .bld [(.int .i64 0), (.int .i64 0)] [(0, none, (.c (.int .i64 1))), (1, none, (.c (.int .i64 128)))], none⟩,
  ⟨(some 11), none, .bsl none 82 2 (some 2) [(.t 9), (.t 10)], none⟩,
  ⟨none, none, .prm false true (.ins 97) [(.t 8), (.c (.int .i64 0)), (.t 11)], none⟩,
  ⟨(some 12), none, .bld [(.int .i64 0), (.int .i64 0)] [(0, none, (.c (.int .i64 0))), (1, none, (.c (.int .i64 1)))], none⟩,
  ⟨(some 13), none, .bld [(.int .i64 0), (.int .i64 0)] [(0, none, (.c (.int .i64 0))), (1, none, (.c (.int .i64 1)))], none⟩,
  ⟨(some 14), none, .bsl none 82 2 (some 2) [(.t 12), (.t 13)], none⟩,
  ⟨none, none, .prm false true (.ins 97) [(.t 8), (.c (.int .i64 1)), (.t 14)], none⟩,
  ⟨(some 15), none, .ld (some 2) (.t 3), none⟩,
  ⟨(some 16), none, .ld (some 2) (.t 4), none⟩,
  ⟨(some 17), none, .bsl none 82 2 (some 2) [(.t 15), (.t 16)], none⟩,
  ⟨none, none, .prm false true (.ins 97) [(.t 8), (.c (.int .i64 2)), (.t 17)], none⟩,
  ⟨(some 18), none, .ld (some 2) (.t 3), none⟩,
  ⟨(some 19), none, .ld (some 2) (.t 4), none⟩,
  ⟨(some 20), none, .bsl none 82 2 (some 2) [(.t 18), (.t 19)], none⟩,
  ⟨none, none, .prm false true (.ins 97) [(.t 8), (.c (.int .i64 3)), (.t 20)], none⟩,
  ⟨(some 21), none, .ld (some 2) (.t 3), none⟩,
  ⟨(some 22), none, .ld (some 2) (.t 4), none⟩,
  ⟨(some 23), none, .bsl none 82 2 (some 2) [(.t 21), (.t 22)], none⟩,
  ⟨none, none, .prm false true (.ins 97) [(.t 8), (.c (.int .i64 4)), (.t 23)], none⟩,
  ⟨(some 24), none, .ld (some 2) (.t 3), none⟩,
  ⟨(some 25), none, .bsl none 82 2 (some 2) [(.t 24)], none⟩,
  ⟨none, none, .prm false true (.ins 97) [(.t 8), (.c (.int .i64 5)), (.t 25)], none⟩,
  ⟨(some 26), none, .ld (some 2) (.t 3), none⟩,
  ⟨(some 27), none, .bld [(.int .i64 0), (.int .i64 0)] [(0, none, (.c (.int .i64 1))), (1, none, (.c (.int .i64 65536)))], none⟩,
  ⟨(some 28), none, .bsl none 82 2 (some 2) [(.t 26), (.t 27)], none⟩,
  ⟨none, none, .prm false true (.ins 97) [(.t 8), (.c (.int .i64 6)), (.t 28)], none⟩,
  ⟨(some 29), none, .ld (some 2) (.t 3), none⟩,
  ⟨(some 30), none, .bsl none 82 2 (some 2) [(.t 29)], none⟩,
  ⟨none, none, .prm false true (.ins 97) [(.t 8), (.c (.int .i64 8)), (.t 30)], none⟩,
  ⟨(some 31), none, .ld (some 2) (.t 3), none⟩,
  ⟨(some 32), none, .bsl none 82 2 (some 2) [(.t 31)], none⟩,
  ⟨none, none, .prm false true (.ins 97) [(.t 8), (.c (.int .i64 10)), (.t 32)], none⟩,
  ⟨(some 33), none, .ld (some 2) (.t 3), none⟩,
  ⟨(some 34), none, .bsl none 82 2 (some 2) [(.t 33)], none⟩,
  ⟨none, none, .prm false true (.ins 97) [(.t 8), (.c (.int .i64 11)), (.t 34)], none⟩,
  ⟨(some 35), none, .ld (some 2) (.t 3), none⟩,
  ⟨(some 36), none, .bsl none 82 2 (some 2) [(.t 35)], none⟩,
  ⟨none, none, .prm false true (.ins 97) [(.t 8), (.c (.int .i64 12)), (.t 36)], none⟩,
  ⟨(some 37), none, .ld (some 2) (.t 3), none⟩,
  ⟨(some 38), none, .bld [(.int .i64 0), (.int .i64 0)] [(0, none, (.c (.int .i64 0))), (1, none, (.c (.int .i64 4)))], none⟩,
  ⟨(some 39), none, .bsl none 82 2 (some 2) [(.t 37), (.t 38)], none⟩,
  ⟨none, none, .prm false true (.ins 97) [(.t 8), (.c (.int .i64 13)), (.t 39)], none⟩,
  ⟨(some 40), none, .mv false (.t 8), none⟩,
  ⟨(some 5), none, .mv false (.t 40), none⟩] (some [0, 5])) (
.seq (.reg false [
  ⟨(some 41), none, .mv false (.t 5), none⟩,
  ⟨(some 42), none, .mv false (.t 0), none⟩,
  ⟨(some 43), none, .prm false false (.lkp 97 false) [(.t 41), (.t 42)], none⟩,
  ⟨(some 2), none, .mv false (.t 43), none⟩] (some [2])) (
.ret))))
set_option maxRecDepth 1000000 in
theorem comp_script_bounds : (Tryd.f37.body.bind fun code => compC Tryd.prog Tryd.f37.ntmps code c_script_bounds) = some c_script_bounds.bare := by kernel_rfl
def r_script_bounds : List R := [.t 2]
theorem spo_script_bounds {ds : List D} {d : D} (hn : Nat.ble ds.length 44 = true) (h : run TSpC gtab 0 c_script_bounds (retK r_script_bounds (· = d)) ⟨env0 0 ds, []⟩) : TSp 37 ds d := Sp_of mixed c_script_bounds r_script_bounds (fn := Tryd.f37) (by kernel_rfl) (by kernel_rfl) comp_script_bounds (by kernel_rfl) hn h
theorem spm_script_bounds {ds : List D} {d : D} {bx bx' : List Ent} (hn : Nat.ble ds.length 44 = true) (h : run TSpC gtab (sizeE bx) c_script_bounds (retG r_script_bounds (fun d1 bx1 => Rt (sizeE bx) bx1 d1 d bx')) ⟨env0 0 ds, bx⟩) : TSpM 37 ds bx d bx' := SpM_of mixed c_script_bounds r_script_bounds (fn := Tryd.f37) (by kernel_rfl) (by kernel_rfl) comp_script_bounds (by kernel_rfl) hn h
/-- glazier/glazierref63.Few -/
def c_ref63_Few : C := .seq (.reg false [
  ⟨(some 2), none, .mv false (.c (.int .i64 0)), none⟩,
  ⟨(some 3), none, .mv false (.c (.bool false)), none⟩,
  ⟨(some 4), none, .mv false (.c (.int .i64 0)), none⟩] (some [0])) (
.seq (.seq (.reg false [
  ⟨(some 5), none, .mv false (.t 0), none⟩] (some [5])) (
.blk 0 (
  .seq (.reg false [
    ⟨(some 7), none, .bin .eql .i64 (.t 5) (.c (.int .i64 0)), none⟩,
    ⟨(some 6), none, .mv false (.t 7), none⟩] (some [5, 6])) (
  .ite (.t 6) (
    .seq (.reg false [
      ⟨(some 2), none, .mv false (.c (.int .i64 2)), none⟩,
      ⟨(some 3), none, .mv false (.c (.bool false)), none⟩,
      ⟨(some 4), none, .mv false (.c (.int .i64 0)), none⟩] (some [2, 3, 4])) (
    .ret)) (
    .seq (.reg false [
      ⟨(some 9), none, .bin .eql .i64 (.t 5) (.c (.int .i64 1)), none⟩,
      ⟨(some 8), none, .mv false (.t 9), none⟩] (some [5, 8])) (
    .ite (.t 8) (
      .seq (.reg false [
        ⟨(some 2), none, .mv false (.c (.int .i64 2)), none⟩,
        ⟨(some 3), none, .mv false (.c (.bool false)), none⟩,
        ⟨(some 4), none, .mv false (.c (.int .i64 1)), none⟩] (some [2, 3, 4])) (
      .ret)) (
      .seq (.reg false [
        ⟨(some 11), none, .bin .eql .i64 (.t 5) (.c (.int .i64 2)), none⟩,
        ⟨(some 10), none, .mv false (.t 11), none⟩] (some [5, 10])) (
      .ite (.t 10) (
        .seq (.reg false [
          ⟨(some 2), none, .mv false (.c (.int .i64 2)), none⟩,
          ⟨(some 3), none, .mv false (.c (.bool true)), none⟩,
          ⟨(some 4), none, .mv false (.c (.int .i64 0)), none⟩] (some [2, 3, 4])) (
        .ret)) (
        .seq (.reg false [
          ⟨(some 13), none, .bin .eql .i64 (.t 5) (.c (.int .i64 3)), none⟩,
          ⟨(some 12), none, .mv false (.t 13), none⟩] (some [5, 12])) (
        .ite (.t 12) (
          .seq (.reg false [
            ⟨(some 2), none, .mv false (.c (.int .i64 2)), none⟩,
            ⟨(some 3), none, .mv false (.c (.bool true)), none⟩,
            ⟨(some 4), none, .mv false (.c (.int .i64 1)), none⟩] (some [2, 3, 4])) (
          .ret)) (
          .seq (.reg false [
            ⟨(some 15), none, .bin .eql .i64 (.t 5) (.c (.int .i64 4)), none⟩,
            ⟨(some 14), none, .mv false (.t 15), none⟩] (some [5, 14])) (
          .ite (.t 14) (
            .seq (.reg false [
              ⟨(some 2), none, .mv false (.c (.int .i64 3)), none⟩,
              ⟨(some 3), none, .mv false (.c (.bool true)), none⟩,
              ⟨(some 4), none, .mv false (.c (.int .i64 0)), none⟩] (some [2, 3, 4])) (
            .ret)) (
            .seq (.seq (.reg false [
              ⟨(some 17), none, .bin .eql .i64 (.t 5) (.c (.int .i64 5)), none⟩,
              ⟨(some 16), none, .mv false (.t 17), none⟩] (some [5, 16])) (
            .ite (.t 16) (
              .skip) (
              .reg false [
                ⟨(some 18), none, .bin .eql .i64 (.t 5) (.c (.int .i64 12)), none⟩,
                ⟨(some 16), none, .mv false (.t 18), none⟩] (some [5, 16])))) (
            .ite (.t 16) (
              .seq (.reg false [
                ⟨(some 2), none, .mv false (.c (.int .i64 1)), none⟩,
                ⟨(some 3), none, .mv false (.c (.bool false)), none⟩,
                ⟨(some 4), none, .mv false (.c (.int .i64 1)), none⟩] (some [2, 3, 4])) (
              .ret)) (
              .seq (.seq (.reg false [
                ⟨(some 20), none, .bin .eql .i64 (.t 5) (.c (.int .i64 6)), none⟩,
                ⟨(some 19), none, .mv false (.t 20), none⟩] (some [5, 19])) (
              .ite (.t 19) (
                .skip) (
                .reg false [
                  ⟨(some 21), none, .bin .eql .i64 (.t 5) (.c (.int .i64 13)), none⟩,
                  ⟨(some 19), none, .mv false (.t 21), none⟩] (some [5, 19])))) (
              .ite (.t 19) (
                .seq (.reg false [
                  ⟨(some 2), none, .mv false (.c (.int .i64 2)), none⟩,
                  ⟨(some 3), none, .mv false (.c (.bool false)), none⟩,
                  ⟨(some 4), none, .mv false (.c (.int .i64 0)), none⟩] (some [2, 3, 4])) (
                .ret)) (
                .seq (.reg false [
                  ⟨(some 23), none, .bin .eql .i64 (.t 5) (.c (.int .i64 7)), none⟩,
                  ⟨(some 22), none, .mv false (.t 23), none⟩] (some [5, 22])) (
                .ite (.t 22) (
                  .seq (.reg false [
                    ⟨(some 2), none, .mv false (.c (.int .i64 5)), none⟩,
                    ⟨(some 3), none, .mv false (.c (.bool false)), none⟩,
                    ⟨(some 4), none, .mv false (.c (.int .i64 0)), none⟩] (some [2, 3, 4])) (
                  .ret)) (
                  .seq (.seq (.reg false [
                    ⟨(some 25), none, .bin .eql .i64 (.t 5) (.c (.int .i64 8)), none⟩,
                    ⟨(some 24), none, .mv false (.t 25), none⟩] (some [5, 24])) (
                  .ite (.t 24) (
                    .skip) (
                    .seq (.reg false [
                      ⟨(some 26), none, .bin .eql .i64 (.t 5) (.c (.int .i64 10)), none⟩,
                      ⟨(some 24), none, .mv false (.t 26), none⟩] (some [5, 24])) (
                    .ite (.t 24) (
                      .skip) (
                      .reg false [
                        ⟨(some 27), none, .bin .eql .i64 (.t 5) (.c (.int .i64 11)), none⟩,
                        ⟨(some 24), none, .mv false (.t 27), none⟩] (some [24])))))) (
                  .ite (.t 24) (
                    .seq (.reg false [
                      ⟨(some 2), none, .mv false (.c (.int .i64 1)), none⟩,
                      ⟨(some 3), none, .mv false (.c (.bool false)), none⟩,
                      ⟨(some 4), none, .mv false (.c (.int .i64 0)), none⟩] (some [2, 3, 4])) (
                    .ret)) (
                    .skip))))))))))))))))))))) (
.seq (.reg false [
  ⟨(some 2), none, .mv false (.c (.int .i64 0)), none⟩,
  ⟨(some 3), none, .mv false (.c (.bool false)), none⟩,
  ⟨(some 4), none, .mv false (.c (.int .i64 0)), none⟩] (some [2, 3, 4])) (
.ret)))
set_option maxRecDepth 1000000 in
theorem comp_ref63_Few : (Tryd.f38.body.bind fun code => compC Tryd.prog Tryd.f38.ntmps code c_ref63_Few) = some c_ref63_Few.bare := by kernel_rfl
def r_ref63_Few : List R := [.t 2, .t 3, .t 4]
theorem spo_ref63_Few {ds : List D} {d : D} (hn : Nat.ble ds.length 28 = true) (h : run TSpC gtab 0 c_ref63_Few (retK r_ref63_Few (· = d)) ⟨env0 0 ds, []⟩) : TSp 38 ds d := Sp_of mixed c_ref63_Few r_ref63_Few (fn := Tryd.f38) (by kernel_rfl) (by kernel_rfl) comp_ref63_Few (by kernel_rfl) hn h
theorem spm_ref63_Few {ds : List D} {d : D} {bx bx' : List Ent} (hn : Nat.ble ds.length 28 = true) (h : run TSpC gtab (sizeE bx) c_ref63_Few (retG r_ref63_Few (fun d1 bx1 => Rt (sizeE bx) bx1 d1 d bx')) ⟨env0 0 ds, bx⟩) : TSpM 38 ds bx d bx' := SpM_of mixed c_ref63_Few r_ref63_Few (fn := Tryd.f38) (by kernel_rfl) (by kernel_rfl) comp_ref63_Few (by kernel_rfl) hn h
/-- glazier/glazierref63.number -/
def c_ref63_number : C := .seq (.reg false [
  ⟨(some 2), none, .mv false (.c (.int .i64 0)), none⟩,
  ⟨(some 3), none, .mv false (.c (.bool false)), none⟩] (some [0])) (
.seq (.reg false [
  ⟨(some 7), none, .mv false (.t 0), none⟩,
  ⟨(some 8), none, .len true (.t 7), none⟩,
  ⟨(some 9), none, .bin .gtr .i64 (.t 8) (.c (.int .i64 0)), none⟩,
  ⟨(some 10), none, .mv false (.t 9), none⟩,
  ⟨(some 11), some (10, true), .mv false (.t 0), none⟩,
  ⟨(some 12), some (10, true), .sidx (.t 11) (.c (.int .i64 0)), none⟩,
  ⟨(some 13), some (10, true), .bin .eql .u8 (.t 12) (.c (.int .u8 45)), none⟩,
  ⟨(some 14), none, .pick (.t 10) (.t 13) (.c (.bool false)), none⟩,
  ⟨(some 4), none, .mv false (.t 14), none⟩] (some [0, 4])) (
.seq (.seq (.reg false [
  ⟨(some 15), none, .mv false (.t 4), none⟩] (some [0, 4, 15])) (
.ite (.t 15) (
  .reg false [
    ⟨(some 16), none, .mv false (.t 0), none⟩,
    ⟨(some 17), none, .sst (.t 16) (some (.c (.int .i64 1))) none, none⟩,
    ⟨(some 0), none, .mv false (.t 17), none⟩] (some [0, 4])) (
  .skip))) (
.seq (.seq (.reg false [
  ⟨(some 18), none, .mv false (.t 0), none⟩,
  ⟨(some 19), none, .len true (.t 18), none⟩,
  ⟨(some 20), none, .bin .eql .i64 (.t 19) (.c (.int .i64 0)), none⟩,
  ⟨(some 21), none, .mv false (.t 20), none⟩,
  ⟨(some 22), some (21, false), .mv false (.t 0), none⟩,
  ⟨(some 23), some (21, false), .len true (.t 22), none⟩,
  ⟨(some 24), some (21, false), .bin .gtr .i64 (.t 23) (.c (.int .i64 1)), none⟩,
  ⟨(some 25), some (21, false), .mv false (.t 24), none⟩,
  ⟨(some 26), some (25, true), .mv false (.t 0), none⟩,
  ⟨(some 27), some (25, true), .sidx (.t 26) (.c (.int .i64 0)), none⟩,
  ⟨(some 28), some (25, true), .bin .eql .u8 (.t 27) (.c (.int .u8 48)), none⟩,
  ⟨(some 29), some (21, false), .pick (.t 25) (.t 28) (.c (.bool false)), none⟩,
  ⟨(some 30), none, .pick (.t 21) (.c (.bool true)) (.t 29), none⟩,
  ⟨(some 31), none, .mv false (.t 30), none⟩,
  ⟨(some 32), some (31, false), .mv false (.t 4), none⟩,
  ⟨(some 33), some (31, false), .mv false (.t 32), none⟩,
  ⟨(some 34), some (33, true), .mv false (.t 0), none⟩,
  ⟨(some 35), some (33, true), .eqb false true (.t 34) (.c (.str [48])), none⟩,
  ⟨(some 36), some (31, false), .pick (.t 33) (.t 35) (.c (.bool false)), none⟩,
  ⟨(some 37), none, .pick (.t 31) (.c (.bool true)) (.t 36), none⟩] (some [0, 4, 37])) (
.ite (.t 37) (
  .seq (.reg false [
    ⟨(some 2), none, .mv false (.c (.int .i64 0)), none⟩,
    ⟨(some 3), none, .mv false (.c (.bool false)), none⟩] (some [2, 3])) (
  .ret)) (
  .skip))) (
.seq (.reg false [
  ⟨(some 5), none, .mv false (.c (.int .i64 0)), none⟩] (some [0, 4, 5])) (
.seq (.seq (.reg false [
  ⟨(some 6), none, .mv false (.c (.int .i64 0)), none⟩] (some [0, 4, 5, 6])) (
.blk 0 (
  .loop (
    .seq (.seq (.reg false [
      ⟨(some 38), none, .mv false (.t 6), none⟩,
      ⟨(some 39), none, .mv false (.t 0), none⟩,
      ⟨(some 40), none, .len true (.t 39), none⟩,
      ⟨(some 41), none, .bin .lss .i64 (.t 38) (.t 40), none⟩] (some [0, 4, 5, 6, 41])) (
    .ite (.t 41) (
      .skip) (
      .exit 0))) (
    .seq (.blk 1 (
      .seq (.seq (.reg false [
        ⟨(some 44), none, .mv false (.t 0), none⟩,
        ⟨(some 45), none, .mv false (.t 6), none⟩,
        ⟨(some 46), none, .sidx (.t 44) (.t 45), none⟩,
        ⟨(some 47), none, .bin .lss .u8 (.t 46) (.c (.int .u8 48)), none⟩,
        ⟨(some 48), none, .mv false (.t 47), none⟩,
        ⟨(some 49), some (48, false), .mv false (.t 0), none⟩,
        ⟨(some 50), some (48, false), .mv false (.t 6), none⟩,
        ⟨(some 51), some (48, false), .sidx (.t 49) (.t 50), none⟩,
        ⟨(some 52), some (48, false), .bin .gtr .u8 (.t 51) (.c (.int .u8 57)), none⟩,
        ⟨(some 53), none, .pick (.t 48) (.c (.bool true)) (.t 52), none⟩] (some [0, 4, 5, 6, 53])) (
      .ite (.t 53) (
        .seq (.reg false [
          ⟨(some 2), none, .mv false (.c (.int .i64 0)), none⟩,
          ⟨(some 3), none, .mv false (.c (.bool false)), none⟩] (some [2, 3])) (
        .ret)) (
        .skip))) (
      .seq (.reg false [
        ⟨(some 54), none, .mv false (.t 6), none⟩,
        ⟨(some 55), none, .bin .lss .i64 (.t 54) (.c (.int .i64 12)), none⟩] (some [0, 4, 5, 6, 55])) (
      .ite (.t 55) (
        .reg false [
          ⟨(some 56), none, .mv false (.t 5), none⟩,
          ⟨(some 57), none, .bin .mul .i64 (.c (.int .i64 10)) (.t 56), none⟩,
          ⟨(some 58), none, .mv false (.t 0), none⟩,
          ⟨(some 59), none, .mv false (.t 6), none⟩,
          ⟨(some 60), none, .sidx (.t 58) (.t 59), none⟩,
          ⟨(some 61), none, .conv .i64 (.t 60), none⟩,
          ⟨(some 62), none, .bin .add .i64 (.t 57) (.t 61), none⟩,
          ⟨(some 63), none, .bin .sub .i64 (.t 62) (.c (.int .i64 48)), none⟩,
          ⟨(some 5), none, .mv false (.t 63), none⟩] (some [0, 4, 5, 6])) (
        .reg false [
          ⟨(some 5), none, .mv false (.c (.int .i64 1000000000000)), none⟩] (some [0, 4, 5, 6])))))) (
    .reg false [
      ⟨(some 42), none, .mv false (.t 6), none⟩,
      ⟨(some 43), none, .bin .add .i64 (.t 42) (.c (.int .i64 1)), none⟩,
      ⟨(some 6), none, .mv false (.t 43), none⟩] (some [0, 4, 5, 6]))))))) (
.seq (.seq (.reg false [
  ⟨(some 64), none, .mv false (.t 4), none⟩] (some [5, 64])) (
.ite (.t 64) (
  .reg false [
    ⟨(some 65), none, .mv false (.t 5), none⟩,
    ⟨(some 66), none, .neg .i64 (.t 65), none⟩,
    ⟨(some 5), none, .mv false (.t 66), none⟩] (some [5])) (
  .skip))) (
.seq (.reg false [
  ⟨(some 67), none, .mv false (.t 5), none⟩,
  ⟨(some 2), none, .mv false (.t 67), none⟩,
  ⟨(some 3), none, .mv false (.c (.bool true)), none⟩] (some [2, 3])) (
.ret))))))))
set_option maxRecDepth 1000000 in
theorem comp_ref63_number : (Tryd.f39.body.bind fun code => compC Tryd.prog Tryd.f39.ntmps code c_ref63_number) = some c_ref63_number.bare := by kernel_rfl
def r_ref63_number : List R := [.t 2, .t 3]
theorem spo_ref63_number {ds : List D} {d : D} (hn : Nat.ble ds.length 68 = true) (h : run TSpC gtab 0 c_ref63_number (retK r_ref63_number (· = d)) ⟨env0 0 ds, []⟩) : TSp 39 ds d := Sp_of mixed c_ref63_number r_ref63_number (fn := Tryd.f39) (by kernel_rfl) (by kernel_rfl) comp_ref63_number (by kernel_rfl) hn h
theorem spm_ref63_number {ds : List D} {d : D} {bx bx' : List Ent} (hn : Nat.ble ds.length 68 = true) (h : run TSpC gtab (sizeE bx) c_ref63_number (retG r_ref63_number (fun d1 bx1 => Rt (sizeE bx) bx1 d1 d bx')) ⟨env0 0 ds, bx⟩) : TSpM 39 ds bx d bx' := SpM_of mixed c_ref63_number r_ref63_number (fn := Tryd.f39) (by kernel_rfl) (by kernel_rfl) comp_ref63_number (by kernel_rfl) hn h
/-- glazier/script.right -/
def c_script_right : C := .seq (.reg false [
  ⟨(some 4), none, .mv false (.c (.bool false)), none⟩] (some [0, 1])) (
.seq (.seq (.reg false [
  ⟨(some 5), none, .mv false (.t 0), none⟩] (some [1, 5])) (
.blk 0 (
  .seq (.reg false [
    ⟨(some 7), none, .bin .eql .i64 (.t 5) (.c (.int .i64 1)), none⟩,
    ⟨(some 6), none, .mv false (.t 7), none⟩] (some [1, 5, 6])) (
  .ite (.t 6) (
    .seq (.reg false [
      ⟨(some 8), none, .bsl none 9 1 none [(.c (.str [112, 108, 97, 105, 110])), (.c (.str [109, 97, 110, 97, 103, 101, 114])), (.c (.str [101, 100, 105, 116, 111, 114])), (.c (.str [116, 101, 114, 109])), (.c (.str [114, 97, 119]))], none⟩,
      ⟨(some 9), none, .mv false (.t 1), none⟩,
      ⟨(some 10), none, .call false 54 [(.t 8), (.t 9)], none⟩,
      ⟨(some 4), none, .mv false (.t 10), none⟩] (some [4])) (
    .ret)) (
    .seq (.reg false [
      ⟨(some 12), none, .bin .eql .i64 (.t 5) (.c (.int .i64 2)), none⟩,
      ⟨(some 11), none, .mv false (.t 12), none⟩] (some [1, 5, 11])) (
    .ite (.t 11) (
      .seq (.reg false [
        ⟨(some 13), none, .mv false (.t 1), none⟩,
        ⟨(some 14), none, .eqb false true (.t 13) (.c (.str [45])), none⟩,
        ⟨(some 15), none, .mv false (.t 14), none⟩,
        ⟨(some 16), some (15, false), .mv false (.t 1), none⟩,
        ⟨(some 17), some (15, false), .call false 55 [(.t 16)], none⟩,
        ⟨(some 18), none, .pick (.t 15) (.c (.bool true)) (.t 17), none⟩,
        ⟨(some 4), none, .mv false (.t 18), none⟩] (some [4])) (
      .ret)) (
      .seq (.reg false [
        ⟨(some 20), none, .bin .eql .i64 (.t 5) (.c (.int .i64 3)), none⟩,
        ⟨(some 19), none, .mv false (.t 20), none⟩] (some [1, 19])) (
      .ite (.t 19) (
        .seq (.reg false [
          ⟨(some 21), none, .mv false (.t 1), none⟩,
          ⟨(some 22), none, .call false 55 [(.t 21)], none⟩,
          ⟨(some 4), none, .mv false (.t 22), none⟩] (some [4])) (
        .ret)) (
        .skip))))))))) (
.seq (.reg false [
  ⟨(some 4), none, .mv false (.c (.bool false)), none⟩] (some [4])) (
.ret)))
set_option maxRecDepth 1000000 in
theorem comp_script_right : (Tryd.f40.body.bind fun code => compC Tryd.prog Tryd.f40.ntmps code c_script_right) = some c_script_right.bare := by kernel_rfl
def r_script_right : List R := [.t 4]
theorem spo_script_right {ds : List D} {d : D} (hn : Nat.ble ds.length 23 = true) (h : run TSpC gtab 0 c_script_right (retK r_script_right (· = d)) ⟨env0 0 ds, []⟩) : TSp 40 ds d := Sp_of mixed c_script_right r_script_right (fn := Tryd.f40) (by kernel_rfl) (by kernel_rfl) comp_script_right (by kernel_rfl) hn h
theorem spm_script_right {ds : List D} {d : D} {bx bx' : List Ent} (hn : Nat.ble ds.length 23 = true) (h : run TSpC gtab (sizeE bx) c_script_right (retG r_script_right (fun d1 bx1 => Rt (sizeE bx) bx1 d1 d bx')) ⟨env0 0 ds, bx⟩) : TSpM 40 ds bx d bx' := SpM_of mixed c_script_right r_script_right (fn := Tryd.f40) (by kernel_rfl) (by kernel_rfl) comp_script_right (by kernel_rfl) hn h
/-- glazier/glazierref63.word -/
def c_ref63_word : C := .seq (.reg false [
  ⟨(some 4), none, .mv false (.c (.bool false)), none⟩] (some [0, 1])) (
.seq (.seq (.reg false [
  ⟨(some 5), none, .mv false (.t 0), none⟩] (some [1, 5])) (
.blk 0 (
  .seq (.reg false [
    ⟨(some 7), none, .bin .eql .i64 (.t 5) (.c (.int .i64 1)), none⟩,
    ⟨(some 6), none, .mv false (.t 7), none⟩] (some [1, 5, 6])) (
  .ite (.t 6) (
    .seq (.reg false [
      ⟨(some 8), none, .mv false (.t 1), none⟩,
      ⟨(some 9), none, .eqb false true (.t 8) (.c (.str [112, 108, 97, 105, 110])), none⟩,
      ⟨(some 10), none, .mv false (.t 9), none⟩,
      ⟨(some 11), some (10, false), .mv false (.t 1), none⟩,
      ⟨(some 12), some (10, false), .eqb false true (.t 11) (.c (.str [109, 97, 110, 97, 103, 101, 114])), none⟩,
      ⟨(some 13), none, .pick (.t 10) (.c (.bool true)) (.t 12), none⟩,
      ⟨(some 14), none, .mv false (.t 13), none⟩,
      ⟨(some 15), some (14, false), .mv false (.t 1), none⟩,
      ⟨(some 16), some (14, false), .eqb false true (.t 15) (.c (.str [101, 100, 105, 116, 111, 114])), none⟩,
      ⟨(some 17), none, .pick (.t 14) (.c (.bool true)) (.t 16), none⟩,
      ⟨(some 18), none, .mv false (.t 17), none⟩,
      ⟨(some 19), some (18, false), .mv false (.t 1), none⟩,
      ⟨(some 20), some (18, false), .eqb false true (.t 19) (.c (.str [116, 101, 114, 109])), none⟩,
      ⟨(some 21), none, .pick (.t 18) (.c (.bool true)) (.t 20), none⟩,
      ⟨(some 22), none, .mv false (.t 21), none⟩,
      ⟨(some 23), some (22, false), .mv false (.t 1), none⟩,
      ⟨(some 24), some (22, false), .eqb false true (.t 23) (.c (.str [114, 97, 119])), none⟩,
      ⟨(some 25), none, .pick (.t 22) (.c (.bool true)) (.t 24), none⟩,
      ⟨(some 4), none, .mv false (.t 25), none⟩] (some [4])) (
    .ret)) (
    .seq (.reg false [
      ⟨(some 27), none, .bin .eql .i64 (.t 5) (.c (.int .i64 12)), none⟩,
      ⟨(some 26), none, .mv false (.t 27), none⟩] (some [1, 26])) (
    .ite (.t 26) (
      .seq (.reg false [
        ⟨(some 28), none, .mv false (.t 1), none⟩,
        ⟨(some 29), none, .call false 61 [(.t 28)], none⟩,
        ⟨(some 30), none, .mv false (.t 29), none⟩,
        ⟨(some 31), some (30, true), .mv false (.t 1), none⟩,
        ⟨(some 32), some (30, true), .eqb true true (.t 31) (.c (.str [45])), none⟩,
        ⟨(some 33), none, .pick (.t 30) (.t 32) (.c (.bool false)), none⟩,
        ⟨(some 4), none, .mv false (.t 33), none⟩] (some [4])) (
      .ret)) (
      .skip))))))) (
.seq (.reg false [
  ⟨(some 34), none, .mv false (.t 1), none⟩,
  ⟨(some 35), none, .call false 61 [(.t 34)], none⟩,
  ⟨(some 4), none, .mv false (.t 35), none⟩] (some [4])) (
.ret)))
set_option maxRecDepth 1000000 in
theorem comp_ref63_word : (Tryd.f45.body.bind fun code => compC Tryd.prog Tryd.f45.ntmps code c_ref63_word) = some c_ref63_word.bare := by kernel_rfl
def r_ref63_word : List R := [.t 4]
theorem spo_ref63_word {ds : List D} {d : D} (hn : Nat.ble ds.length 36 = true) (h : run TSpC gtab 0 c_ref63_word (retK r_ref63_word (· = d)) ⟨env0 0 ds, []⟩) : TSp 45 ds d := Sp_of mixed c_ref63_word r_ref63_word (fn := Tryd.f45) (by kernel_rfl) (by kernel_rfl) comp_ref63_word (by kernel_rfl) hn h
theorem spm_ref63_word {ds : List D} {d : D} {bx bx' : List Ent} (hn : Nat.ble ds.length 36 = true) (h : run TSpC gtab (sizeE bx) c_ref63_word (retG r_ref63_word (fun d1 bx1 => Rt (sizeE bx) bx1 d1 d bx')) ⟨env0 0 ds, bx⟩) : TSpM 45 ds bx d bx' := SpM_of mixed c_ref63_word r_ref63_word (fn := Tryd.f45) (by kernel_rfl) (by kernel_rfl) comp_ref63_word (by kernel_rfl) hn h
/-- glazier/glazierref63.within -/
def c_ref63_within : C := .seq (.reg false [
  ⟨(some 6), none, .mv false (.c (.bool false)), none⟩] (some [0, 1, 2])) (
.seq (.reg false [
  ⟨(some 7), none, .mv false (.t 0), none⟩,
  ⟨(some 8), none, .mv false (.t 1), none⟩,
  ⟨(some 9), none, .bin .geq .i64 (.t 7) (.t 8), none⟩,
  ⟨(some 10), none, .mv false (.t 9), none⟩,
  ⟨(some 11), some (10, true), .mv false (.t 0), none⟩,
  ⟨(some 12), some (10, true), .mv false (.t 2), none⟩,
  ⟨(some 13), some (10, true), .bin .leq .i64 (.t 11) (.t 12), none⟩,
  ⟨(some 14), none, .pick (.t 10) (.t 13) (.c (.bool false)), none⟩,
  ⟨(some 6), none, .mv false (.t 14), none⟩] (some [6])) (
.ret))
set_option maxRecDepth 1000000 in
theorem comp_ref63_within : (Tryd.f46.body.bind fun code => compC Tryd.prog Tryd.f46.ntmps code c_ref63_within) = some c_ref63_within.bare := by kernel_rfl
def r_ref63_within : List R := [.t 6]
theorem spo_ref63_within {ds : List D} {d : D} (hn : Nat.ble ds.length 15 = true) (h : run TSpC gtab 0 c_ref63_within (retK r_ref63_within (· = d)) ⟨env0 0 ds, []⟩) : TSp 46 ds d := Sp_of mixed c_ref63_within r_ref63_within (fn := Tryd.f46) (by kernel_rfl) (by kernel_rfl) comp_ref63_within (by kernel_rfl) hn h
theorem spm_ref63_within {ds : List D} {d : D} {bx bx' : List Ent} (hn : Nat.ble ds.length 15 = true) (h : run TSpC gtab (sizeE bx) c_ref63_within (retG r_ref63_within (fun d1 bx1 => Rt (sizeE bx) bx1 d1 d bx')) ⟨env0 0 ds, bx⟩) : TSpM 46 ds bx d bx' := SpM_of mixed c_ref63_within r_ref63_within (fn := Tryd.f46) (by kernel_rfl) (by kernel_rfl) comp_ref63_within (by kernel_rfl) hn h
/-- glazier/glazierref63.tens -/
def c_ref63_tens : C := .seq (.reg false [
  ⟨(some 2), none, .mv false (.c (.str [])), none⟩] (some [0])) (
.seq (.seq (.reg false [
  ⟨(some 4), none, .mv false (.t 0), none⟩,
  ⟨(some 5), none, .bin .lss .i64 (.t 4) (.c (.int .i64 0)), none⟩] (some [0, 5])) (
.ite (.t 5) (
  .seq (.reg false [
    ⟨(some 6), none, .mv false (.t 0), none⟩,
    ⟨(some 7), none, .neg .i64 (.t 6), none⟩,
    ⟨(some 8), none, .call false 47 [(.t 7)], none⟩,
    ⟨(some 9), none, .cat (.c (.str [45])) (.t 8), none⟩,
    ⟨(some 2), none, .mv false (.t 9), none⟩] (some [2])) (
  .ret)) (
  .skip))) (
.seq (.reg false [
  ⟨(some 3), none, .mv false (.c (.str [])), none⟩] (some [0, 3])) (
.seq (.blk 0 (
  .loop (
    .seq (.seq (.reg false [
      ⟨(some 10), none, .mv false (.t 0), none⟩,
      ⟨(some 11), none, .bin .gtr .i64 (.t 10) (.c (.int .i64 9)), none⟩] (some [0, 3, 11])) (
    .ite (.t 11) (
      .skip) (
      .exit 0))) (
    .blk 1 (
      .seq (.reg false [
        ⟨(some 12), none, .mv false (.t 0), none⟩,
        ⟨(some 13), none, .bin .rem .i64 (.t 12) (.c (.int .i64 10)), none⟩,
        ⟨(some 14), none, .bin .add .i64 (.c (.int .i64 48)) (.t 13), none⟩,
        ⟨(some 15), none, .conv .u8 (.t 14), none⟩,
        ⟨(some 16), none, .bsl none 5 1 none [(.t 15)], none⟩,
        ⟨(some 17), none, .b2s (.t 16), none⟩,
        ⟨(some 18), none, .mv false (.t 3), none⟩,
        ⟨(some 19), none, .cat (.t 17) (.t 18), none⟩,
        ⟨(some 3), none, .mv false (.t 19), none⟩] (some [0, 3])) (
      .reg false [
        ⟨(some 20), none, .mv false (.t 0), none⟩,
        ⟨(some 21), none, .bin .quo .i64 (.t 20) (.c (.int .i64 10)), none⟩,
        ⟨(some 0), none, .mv false (.t 21), none⟩] (some [0, 3]))))))) (
.seq (.reg false [
  ⟨(some 22), none, .mv false (.t 0), none⟩,
  ⟨(some 23), none, .bin .add .i64 (.c (.int .i64 48)) (.t 22), none⟩,
  ⟨(some 24), none, .conv .u8 (.t 23), none⟩,
  ⟨(some 25), none, .bsl none 5 1 none [(.t 24)], none⟩,
  ⟨(some 26), none, .b2s (.t 25), none⟩,
  ⟨(some 27), none, .mv false (.t 3), none⟩,
  ⟨(some 28), none, .cat (.t 26) (.t 27), none⟩,
  ⟨(some 2), none, .mv false (.t 28), none⟩] (some [2])) (
.ret)))))
set_option maxRecDepth 1000000 in
theorem comp_ref63_tens : (Tryd.f47.body.bind fun code => compC Tryd.prog Tryd.f47.ntmps code c_ref63_tens) = some c_ref63_tens.bare := by kernel_rfl
def r_ref63_tens : List R := [.t 2]
theorem spo_ref63_tens {ds : List D} {d : D} (hn : Nat.ble ds.length 29 = true) (h : run TSpC gtab 0 c_ref63_tens (retK r_ref63_tens (· = d)) ⟨env0 0 ds, []⟩) : TSp 47 ds d := Sp_of mixed c_ref63_tens r_ref63_tens (fn := Tryd.f47) (by kernel_rfl) (by kernel_rfl) comp_ref63_tens (by kernel_rfl) hn h
theorem spm_ref63_tens {ds : List D} {d : D} {bx bx' : List Ent} (hn : Nat.ble ds.length 29 = true) (h : run TSpC gtab (sizeE bx) c_ref63_tens (retG r_ref63_tens (fun d1 bx1 => Rt (sizeE bx) bx1 d1 d bx')) ⟨env0 0 ds, bx⟩) : TSpM 47 ds bx d bx' := SpM_of mixed c_ref63_tens r_ref63_tens (fn := Tryd.f47) (by kernel_rfl) (by kernel_rfl) comp_ref63_tens (by kernel_rfl) hn h
/-- strings.CutPrefix -/
def c_strings_CutPrefix : C := .seq (.reg false [
  ⟨(some 4), none, .mv false (.c (.str [])), none⟩,
  ⟨(some 5), none, .mv false (.c (.bool false)), none⟩] (some [0, 1])) (
.seq (.reg false [
  ⟨(some 6), none, .mv false (.t 0), none⟩,
  ⟨(some 7), none, .mv false (.t 1), none⟩,
  ⟨(some 8), none, .call false 66 [(.t 6), (.t 7)], none⟩,
  ⟨(some 9), none, .ext (.t 8) 0, none⟩,
  ⟨(some 10), none, .ext (.t 8) 1, none⟩,
  ⟨(some 4), none, .mv false (.t 9), none⟩,
  ⟨(some 5), none, .mv false (.t 10), none⟩] (some [4, 5])) (
.ret))
set_option maxRecDepth 1000000 in
theorem comp_strings_CutPrefix : (Tryd.f52.body.bind fun code => compC Tryd.prog Tryd.f52.ntmps code c_strings_CutPrefix) = some c_strings_CutPrefix.bare := by kernel_rfl
def r_strings_CutPrefix : List R := [.t 4, .t 5]
theorem spo_strings_CutPrefix {ds : List D} {d : D} (hn : Nat.ble ds.length 11 = true) (h : run TSpC gtab 0 c_strings_CutPrefix (retK r_strings_CutPrefix (· = d)) ⟨env0 0 ds, []⟩) : TSp 52 ds d := Sp_of mixed c_strings_CutPrefix r_strings_CutPrefix (fn := Tryd.f52) (by kernel_rfl) (by kernel_rfl) comp_strings_CutPrefix (by kernel_rfl) hn h
theorem spm_strings_CutPrefix {ds : List D} {d : D} {bx bx' : List Ent} (hn : Nat.ble ds.length 11 = true) (h : run TSpC gtab (sizeE bx) c_strings_CutPrefix (retG r_strings_CutPrefix (fun d1 bx1 => Rt (sizeE bx) bx1 d1 d bx')) ⟨env0 0 ds, bx⟩) : TSpM 52 ds bx d bx' := SpM_of mixed c_strings_CutPrefix r_strings_CutPrefix (fn := Tryd.f52) (by kernel_rfl) (by kernel_rfl) comp_strings_CutPrefix (by kernel_rfl) hn h
/-- slices.Contains[[]string,string] -/
def c_slices_Contains_string_string : C := .seq (.reg false [
  ⟨(some 4), none, .mv false (.c (.bool false)), none⟩] (some [0, 1])) (
.seq (.reg false [
  ⟨(some 5), none, .mv false (.t 0), none⟩,
  ⟨(some 6), none, .mv false (.t 1), none⟩,
  ⟨(some 7), none, .call false 69 [(.t 5), (.t 6)], none⟩,
  ⟨(some 8), none, .bin .geq .i64 (.t 7) (.c (.int .i64 0)), none⟩,
  ⟨(some 4), none, .mv false (.t 8), none⟩] (some [4])) (
.ret))
set_option maxRecDepth 1000000 in
theorem comp_slices_Contains_string_string : (Tryd.f54.body.bind fun code => compC Tryd.prog Tryd.f54.ntmps code c_slices_Contains_string_string) = some c_slices_Contains_string_string.bare := by kernel_rfl
def r_slices_Contains_string_string : List R := [.t 4]
theorem spo_slices_Contains_string_string {ds : List D} {d : D} (hn : Nat.ble ds.length 9 = true) (h : run TSpC gtab 0 c_slices_Contains_string_string (retK r_slices_Contains_string_string (· = d)) ⟨env0 0 ds, []⟩) : TSp 54 ds d := Sp_of mixed c_slices_Contains_string_string r_slices_Contains_string_string (fn := Tryd.f54) (by kernel_rfl) (by kernel_rfl) comp_slices_Contains_string_string (by kernel_rfl) hn h
theorem spm_slices_Contains_string_string {ds : List D} {d : D} {bx bx' : List Ent} (hn : Nat.ble ds.length 9 = true) (h : run TSpC gtab (sizeE bx) c_slices_Contains_string_string (retG r_slices_Contains_string_string (fun d1 bx1 => Rt (sizeE bx) bx1 d1 d bx')) ⟨env0 0 ds, bx⟩) : TSpM 54 ds bx d bx' := SpM_of mixed c_slices_Contains_string_string r_slices_Contains_string_string (fn := Tryd.f54) (by kernel_rfl) (by kernel_rfl) comp_slices_Contains_string_string (by kernel_rfl) hn h
/-- glazier/script.hex -/
def c_script_hex : C := .seq (.reg false [
  ⟨(some 2), none, .mv false (.c (.bool false)), none⟩] (some [0])) (
.seq (.seq (.reg false [
  ⟨(some 4), none, .mv false (.t 0), none⟩,
  ⟨(some 5), none, .eqb false true (.t 4) (.c (.str [])), none⟩,
  ⟨(some 6), none, .mv false (.t 5), none⟩,
  ⟨(some 7), some (6, false), .mv false (.t 0), none⟩,
  ⟨(some 8), some (6, false), .len true (.t 7), none⟩,
  ⟨(some 9), some (6, false), .bin .rem .i64 (.t 8) (.c (.int .i64 2)), none⟩,
  ⟨(some 10), some (6, false), .bin .neq .i64 (.t 9) (.c (.int .i64 0)), none⟩,
  ⟨(some 11), none, .pick (.t 6) (.c (.bool true)) (.t 10), none⟩] (some [0, 11])) (
.ite (.t 11) (
  .seq (.reg false [
    ⟨(some 2), none, .mv false (.c (.bool false)), none⟩] (some [2])) (
  .ret)) (
  .skip))) (
.seq (.seq (.reg false [
  ⟨(some 12), none, .mv false (.t 0), none⟩,
  ⟨(some 13), none, .len true (.t 12), none⟩,
  ⟨(some 14), none, .mv false (.c (.int .i64 0)), none⟩] (some [0, 13, 14])) (
.blk 0 (
  .loop (
    .seq (.reg false [
      ⟨(some 15), none, .bin .lss .i64 (.t 14) (.t 13), none⟩] (some [0, 13, 14, 15])) (
    .seq (.ite (.t 15) (
      .skip) (
      .exit 0)) (
    .seq (.blk 1 (
      .seq (.reg false [
        ⟨(some 16), none, .mv false (.t 14), none⟩,
        ⟨(some 3), none, .mv false (.t 16), none⟩] (some [0, 3, 13, 14])) (
      .seq (.reg false [
        ⟨(some 17), none, .mv false (.t 0), none⟩,
        ⟨(some 18), none, .mv false (.t 3), none⟩,
        ⟨(some 19), none, .sidx (.t 17) (.t 18), none⟩,
        ⟨(some 20), none, .bin .geq .u8 (.t 19) (.c (.int .u8 48)), none⟩,
        ⟨(some 21), none, .mv false (.t 20), none⟩,
        ⟨(some 22), some (21, true), .mv false (.t 0), none⟩,
        ⟨(some 23), some (21, true), .mv false (.t 3), none⟩,
        ⟨(some 24), some (21, true), .sidx (.t 22) (.t 23), none⟩,
        ⟨(some 25), some (21, true), .bin .leq .u8 (.t 24) (.c (.int .u8 57)), none⟩,
        ⟨(some 26), none, .pick (.t 21) (.t 25) (.c (.bool false)), none⟩,
        ⟨(some 27), none, .mv false (.t 26), none⟩,
        ⟨(some 28), some (27, false), .mv false (.t 0), none⟩,
        ⟨(some 29), some (27, false), .mv false (.t 3), none⟩,
        ⟨(some 30), some (27, false), .sidx (.t 28) (.t 29), none⟩,
        ⟨(some 31), some (27, false), .bin .geq .u8 (.t 30) (.c (.int .u8 97)), none⟩,
        ⟨(some 32), some (27, false), .mv false (.t 31), none⟩,
        ⟨(some 33), some (32, true), .mv false (.t 0), none⟩,
        ⟨(some 34), some (32, true), .mv false (.t 3), none⟩,
        ⟨(some 35), some (32, true), .sidx (.t 33) (.t 34), none⟩,
        ⟨(some 36), some (32, true), .bin .leq .u8 (.t 35) (.c (.int .u8 102)), none⟩,
        ⟨(some 37), some (27, false), .pick (.t 32) (.t 36) (.c (.bool false)), none⟩,
        ⟨(some 38), none, .pick (.t 27) (.c (.bool true)) (.t 37), none⟩,
        ⟨(some 39), none, .not (.t 38), none⟩] (some [0, 13, 14, 39])) (
      .ite (.t 39) (
        .seq (.reg false [
          ⟨(some 2), none, .mv false (.c (.bool false)), none⟩] (some [2])) (
        .ret)) (
        .skip))))) (
    .reg false [
      ⟨(some 40), none, .bin .add .i64 (.t 14) (.c (.int .i64 1)), none⟩,
      ⟨(some 14), none, .mv false (.t 40), none⟩] (some [0, 13, 14])))))))) (
.seq (.reg false [
  ⟨(some 2), none, .mv false (.c (.bool true)), none⟩] (some [2])) (
.ret))))
set_option maxRecDepth 1000000 in
theorem comp_script_hex : (Tryd.f55.body.bind fun code => compC Tryd.prog Tryd.f55.ntmps code c_script_hex) = some c_script_hex.bare := by kernel_rfl
def r_script_hex : List R := [.t 2]
theorem spo_script_hex {ds : List D} {d : D} (hn : Nat.ble ds.length 41 = true) (h : run TSpC gtab 0 c_script_hex (retK r_script_hex (· = d)) ⟨env0 0 ds, []⟩) : TSp 55 ds d := Sp_of mixed c_script_hex r_script_hex (fn := Tryd.f55) (by kernel_rfl) (by kernel_rfl) comp_script_hex (by kernel_rfl) hn h
theorem spm_script_hex {ds : List D} {d : D} {bx bx' : List Ent} (hn : Nat.ble ds.length 41 = true) (h : run TSpC gtab (sizeE bx) c_script_hex (retG r_script_hex (fun d1 bx1 => Rt (sizeE bx) bx1 d1 d bx')) ⟨env0 0 ds, bx⟩) : TSpM 55 ds bx d bx' := SpM_of mixed c_script_hex r_script_hex (fn := Tryd.f55) (by kernel_rfl) (by kernel_rfl) comp_script_hex (by kernel_rfl) hn h
/-- glazier/glazierref63.hex -/
def c_ref63_hex : C := .seq (.reg false [
  ⟨(some 2), none, .mv false (.c (.bool false)), none⟩] (some [0])) (
.seq (.seq (.reg false [
  ⟨(some 4), none, .mv false (.t 0), none⟩,
  ⟨(some 5), none, .eqb false true (.t 4) (.c (.str [45])), none⟩] (some [0, 5])) (
.ite (.t 5) (
  .seq (.reg false [
    ⟨(some 2), none, .mv false (.c (.bool true)), none⟩] (some [2])) (
  .ret)) (
  .skip))) (
.seq (.seq (.reg false [
  ⟨(some 3), none, .mv false (.c (.int .i64 0)), none⟩] (some [0, 3])) (
.blk 0 (
  .loop (
    .seq (.seq (.reg false [
      ⟨(some 6), none, .mv false (.t 3), none⟩,
      ⟨(some 7), none, .mv false (.t 0), none⟩,
      ⟨(some 8), none, .len true (.t 7), none⟩,
      ⟨(some 9), none, .bin .lss .i64 (.t 6) (.t 8), none⟩] (some [0, 3, 9])) (
    .ite (.t 9) (
      .skip) (
      .exit 0))) (
    .seq (.blk 1 (
      .seq (.reg false [
        ⟨(some 12), none, .mv false (.t 0), none⟩,
        ⟨(some 13), none, .mv false (.t 3), none⟩,
        ⟨(some 14), none, .sidx (.t 12) (.t 13), none⟩,
        ⟨(some 15), none, .bin .geq .u8 (.t 14) (.c (.int .u8 48)), none⟩,
        ⟨(some 16), none, .mv false (.t 15), none⟩,
        ⟨(some 17), some (16, true), .mv false (.t 0), none⟩,
        ⟨(some 18), some (16, true), .mv false (.t 3), none⟩,
        ⟨(some 19), some (16, true), .sidx (.t 17) (.t 18), none⟩,
        ⟨(some 20), some (16, true), .bin .leq .u8 (.t 19) (.c (.int .u8 57)), none⟩,
        ⟨(some 21), none, .pick (.t 16) (.t 20) (.c (.bool false)), none⟩,
        ⟨(some 22), none, .mv false (.t 21), none⟩,
        ⟨(some 23), some (22, false), .mv false (.t 0), none⟩,
        ⟨(some 24), some (22, false), .mv false (.t 3), none⟩,
        ⟨(some 25), some (22, false), .sidx (.t 23) (.t 24), none⟩,
        ⟨(some 26), some (22, false), .bin .geq .u8 (.t 25) (.c (.int .u8 97)), none⟩,
        ⟨(some 27), some (22, false), .mv false (.t 26), none⟩,
        ⟨(some 28), some (27, true), .mv false (.t 0), none⟩,
        ⟨(some 29), some (27, true), .mv false (.t 3), none⟩,
        ⟨(some 30), some (27, true), .sidx (.t 28) (.t 29), none⟩,
        ⟨(some 31), some (27, true), .bin .leq .u8 (.t 30) (.c (.int .u8 102)), none⟩,
        ⟨(some 32), some (22, false), .pick (.t 27) (.t 31) (.c (.bool false)), none⟩,
        ⟨(some 33), none, .pick (.t 22) (.c (.bool true)) (.t 32), none⟩,
        ⟨(some 34), none, .not (.t 33), none⟩] (some [0, 3, 34])) (
      .ite (.t 34) (
        .seq (.reg false [
          ⟨(some 2), none, .mv false (.c (.bool false)), none⟩] (some [2])) (
        .ret)) (
        .skip)))) (
    .reg false [
      ⟨(some 10), none, .mv false (.t 3), none⟩,
      ⟨(some 11), none, .bin .add .i64 (.t 10) (.c (.int .i64 1)), none⟩,
      ⟨(some 3), none, .mv false (.t 11), none⟩] (some [0, 3]))))))) (
.seq (.reg false [
  ⟨(some 35), none, .mv false (.t 0), none⟩,
  ⟨(some 36), none, .len true (.t 35), none⟩,
  ⟨(some 37), none, .bin .gtr .i64 (.t 36) (.c (.int .i64 0)), none⟩,
  ⟨(some 38), none, .mv false (.t 37), none⟩,
  ⟨(some 39), some (38, true), .mv false (.t 0), none⟩,
  ⟨(some 40), some (38, true), .len true (.t 39), none⟩,
  ⟨(some 41), some (38, true), .bin .rem .i64 (.t 40) (.c (.int .i64 2)), none⟩,
  ⟨(some 42), some (38, true), .bin .eql .i64 (.t 41) (.c (.int .i64 0)), none⟩,
  ⟨(some 43), none, .pick (.t 38) (.t 42) (.c (.bool false)), none⟩,
  ⟨(some 2), none, .mv false (.t 43), none⟩] (some [2])) (
.ret))))
set_option maxRecDepth 1000000 in
theorem comp_ref63_hex : (Tryd.f61.body.bind fun code => compC Tryd.prog Tryd.f61.ntmps code c_ref63_hex) = some c_ref63_hex.bare := by kernel_rfl
def r_ref63_hex : List R := [.t 2]
theorem spo_ref63_hex {ds : List D} {d : D} (hn : Nat.ble ds.length 44 = true) (h : run TSpC gtab 0 c_ref63_hex (retK r_ref63_hex (· = d)) ⟨env0 0 ds, []⟩) : TSp 61 ds d := Sp_of mixed c_ref63_hex r_ref63_hex (fn := Tryd.f61) (by kernel_rfl) (by kernel_rfl) comp_ref63_hex (by kernel_rfl) hn h
theorem spm_ref63_hex {ds : List D} {d : D} {bx bx' : List Ent} (hn : Nat.ble ds.length 44 = true) (h : run TSpC gtab (sizeE bx) c_ref63_hex (retG r_ref63_hex (fun d1 bx1 => Rt (sizeE bx) bx1 d1 d bx')) ⟨env0 0 ds, bx⟩) : TSpM 61 ds bx d bx' := SpM_of mixed c_ref63_hex r_ref63_hex (fn := Tryd.f61) (by kernel_rfl) (by kernel_rfl) comp_ref63_hex (by kernel_rfl) hn h
/-- internal/stringslite.CutPrefix -/
def c_internal_stringslite_CutPrefix : C := .seq (.reg false [
  ⟨(some 4), none, .mv false (.c (.str [])), none⟩,
  ⟨(some 5), none, .mv false (.c (.bool false)), none⟩] (some [0, 1])) (
.seq (.seq (.reg false [
  ⟨(some 6), none, .mv false (.t 0), none⟩,
  ⟨(some 7), none, .mv false (.t 1), none⟩,
  ⟨(some 8), none, .call false 81 [(.t 6), (.t 7)], none⟩,
  ⟨(some 9), none, .not (.t 8), none⟩] (some [0, 1, 9])) (
.ite (.t 9) (
  .seq (.reg false [
    ⟨(some 10), none, .mv false (.t 0), none⟩,
    ⟨(some 4), none, .mv false (.t 10), none⟩,
    ⟨(some 5), none, .mv false (.c (.bool false)), none⟩] (some [4, 5])) (
  .ret)) (
  .skip))) (
.seq (.reg false [
  ⟨(some 11), none, .mv false (.t 0), none⟩,
  ⟨(some 12), none, .mv false (.t 1), none⟩,
  ⟨(some 13), none, .len true (.t 12), none⟩,
  ⟨(some 14), none, .sst (.t 11) (some (.t 13)) none, none⟩,
  ⟨(some 4), none, .mv false (.t 14), none⟩,
  ⟨(some 5), none, .mv false (.c (.bool true)), none⟩] (some [4, 5])) (
.ret)))
set_option maxRecDepth 1000000 in
theorem comp_internal_stringslite_CutPrefix : (Tryd.f66.body.bind fun code => compC Tryd.prog Tryd.f66.ntmps code c_internal_stringslite_CutPrefix) = some c_internal_stringslite_CutPrefix.bare := by kernel_rfl
def r_internal_stringslite_CutPrefix : List R := [.t 4, .t 5]
theorem spo_internal_stringslite_CutPrefix {ds : List D} {d : D} (hn : Nat.ble ds.length 15 = true) (h : run TSpC gtab 0 c_internal_stringslite_CutPrefix (retK r_internal_stringslite_CutPrefix (· = d)) ⟨env0 0 ds, []⟩) : TSp 66 ds d := Sp_of mixed c_internal_stringslite_CutPrefix r_internal_stringslite_CutPrefix (fn := Tryd.f66) (by kernel_rfl) (by kernel_rfl) comp_internal_stringslite_CutPrefix (by kernel_rfl) hn h
theorem spm_internal_stringslite_CutPrefix {ds : List D} {d : D} {bx bx' : List Ent} (hn : Nat.ble ds.length 15 = true) (h : run TSpC gtab (sizeE bx) c_internal_stringslite_CutPrefix (retG r_internal_stringslite_CutPrefix (fun d1 bx1 => Rt (sizeE bx) bx1 d1 d bx')) ⟨env0 0 ds, bx⟩) : TSpM 66 ds bx d bx' := SpM_of mixed c_internal_stringslite_CutPrefix r_internal_stringslite_CutPrefix (fn := Tryd.f66) (by kernel_rfl) (by kernel_rfl) comp_internal_stringslite_CutPrefix (by kernel_rfl) hn h
/-- slices.Index[[]string,string] -/
def c_slices_Index_string_string : C := .seq (.reg false [
  ⟨(some 4), none, .mv false (.c (.int .i64 0)), none⟩] (some [0, 1])) (
.seq (.seq (.reg false [
  ⟨(some 6), none, .mv false (.t 0), none⟩,
  ⟨(some 7), none, .len false (.t 6), none⟩,
  ⟨(some 8), none, .mv false (.c (.int .i64 0)), none⟩] (some [0, 1, 7, 8])) (
.blk 0 (
  .loop (
    .seq (.reg false [
      ⟨(some 9), none, .bin .lss .i64 (.t 8) (.t 7), none⟩] (some [0, 1, 7, 8, 9])) (
    .seq (.ite (.t 9) (
      .skip) (
      .exit 0)) (
    .seq (.blk 1 (
      .seq (.reg false [
        ⟨(some 10), none, .mv false (.t 8), none⟩,
        ⟨(some 5), none, .mv false (.t 10), none⟩] (some [0, 1, 5, 7, 8])) (
      .seq (.reg false [
        ⟨(some 11), none, .mv false (.t 1), none⟩,
        ⟨(some 12), none, .mv false (.t 0), none⟩,
        ⟨(some 13), none, .mv false (.t 5), none⟩,
        ⟨(some 14), none, .ixs 1 (.t 12) (.t 13), none⟩,
        ⟨(some 15), none, .ld none (.t 14), none⟩,
        ⟨(some 16), none, .eqb false true (.t 11) (.t 15), none⟩] (some [0, 1, 5, 7, 8, 16])) (
      .ite (.t 16) (
        .seq (.reg false [
          ⟨(some 17), none, .mv false (.t 5), none⟩,
          ⟨(some 4), none, .mv false (.t 17), none⟩] (some [4])) (
        .ret)) (
        .skip))))) (
    .reg false [
      ⟨(some 18), none, .bin .add .i64 (.t 8) (.c (.int .i64 1)), none⟩,
      ⟨(some 8), none, .mv false (.t 18), none⟩] (some [0, 1, 7, 8])))))))) (
.seq (.reg false [
  ⟨(some 4), none, .mv false (.c (.int .i64 (-1))), none⟩] (some [4])) (
.ret)))
set_option maxRecDepth 1000000 in
theorem comp_slices_Index_string_string : (Tryd.f69.body.bind fun code => compC Tryd.prog Tryd.f69.ntmps code c_slices_Index_string_string) = some c_slices_Index_string_string.bare := by kernel_rfl
def r_slices_Index_string_string : List R := [.t 4]
theorem spo_slices_Index_string_string {ds : List D} {d : D} (hn : Nat.ble ds.length 19 = true) (h : run TSpC gtab 0 c_slices_Index_string_string (retK r_slices_Index_string_string (· = d)) ⟨env0 0 ds, []⟩) : TSp 69 ds d := Sp_of mixed c_slices_Index_string_string r_slices_Index_string_string (fn := Tryd.f69) (by kernel_rfl) (by kernel_rfl) comp_slices_Index_string_string (by kernel_rfl) hn h
theorem spm_slices_Index_string_string {ds : List D} {d : D} {bx bx' : List Ent} (hn : Nat.ble ds.length 19 = true) (h : run TSpC gtab (sizeE bx) c_slices_Index_string_string (retG r_slices_Index_string_string (fun d1 bx1 => Rt (sizeE bx) bx1 d1 d bx')) ⟨env0 0 ds, bx⟩) : TSpM 69 ds bx d bx' := SpM_of mixed c_slices_Index_string_string r_slices_Index_string_string (fn := Tryd.f69) (by kernel_rfl) (by kernel_rfl) comp_slices_Index_string_string (by kernel_rfl) hn h
/-- internal/stringslite.HasPrefix -/
def c_internal_stringslite_HasPrefix : C := .seq (.reg false [
  ⟨(some 4), none, .mv false (.c (.bool false)), none⟩] (some [0, 1])) (
.seq (.reg false [
  ⟨(some 5), none, .mv false (.t 0), none⟩,
  ⟨(some 6), none, .len true (.t 5), none⟩,
  ⟨(some 7), none, .mv false (.t 1), none⟩,
  ⟨(some 8), none, .len true (.t 7), none⟩,
  ⟨(some 9), none, .bin .geq .i64 (.t 6) (.t 8), none⟩,
  ⟨(some 10), none, .mv false (.t 9), none⟩,
  ⟨(some 11), some (10, true), .mv false (.t 0), none⟩,
  ⟨(some 12), some (10, true), .mv false (.t 1), none⟩,
  ⟨(some 13), some (10, true), .len true (.t 12), none⟩,
  ⟨(some 14), some (10, true), .sst (.t 11) none (some (.t 13)), none⟩,
  ⟨(some 15), some (10, true), .mv false (.t 1), none⟩,
  ⟨(some 16), some (10, true), .eqb false true (.t 14) (.t 15), none⟩,
  ⟨(some 17), none, .pick (.t 10) (.t 16) (.c (.bool false)), none⟩,
  ⟨(some 4), none, .mv false (.t 17), none⟩] (some [4])) (
.ret))
set_option maxRecDepth 1000000 in
theorem comp_internal_stringslite_HasPrefix : (Tryd.f81.body.bind fun code => compC Tryd.prog Tryd.f81.ntmps code c_internal_stringslite_HasPrefix) = some c_internal_stringslite_HasPrefix.bare := by kernel_rfl
def r_internal_stringslite_HasPrefix : List R := [.t 4]
theorem spo_internal_stringslite_HasPrefix {ds : List D} {d : D} (hn : Nat.ble ds.length 18 = true) (h : run TSpC gtab 0 c_internal_stringslite_HasPrefix (retK r_internal_stringslite_HasPrefix (· = d)) ⟨env0 0 ds, []⟩) : TSp 81 ds d := Sp_of mixed c_internal_stringslite_HasPrefix r_internal_stringslite_HasPrefix (fn := Tryd.f81) (by kernel_rfl) (by kernel_rfl) comp_internal_stringslite_HasPrefix (by kernel_rfl) hn h
theorem spm_internal_stringslite_HasPrefix {ds : List D} {d : D} {bx bx' : List Ent} (hn : Nat.ble ds.length 18 = true) (h : run TSpC gtab (sizeE bx) c_internal_stringslite_HasPrefix (retG r_internal_stringslite_HasPrefix (fun d1 bx1 => Rt (sizeE bx) bx1 d1 d bx')) ⟨env0 0 ds, bx⟩) : TSpM 81 ds bx d bx' := SpM_of mixed c_internal_stringslite_HasPrefix r_internal_stringslite_HasPrefix (fn := Tryd.f81) (by kernel_rfl) (by kernel_rfl) comp_internal_stringslite_HasPrefix (by kernel_rfl) hn h
end Go.AM
