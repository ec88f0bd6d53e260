/- The functions' code, as the little machine has it (printed by Show.lean). -/
import Derived.Test.YtoaialdcgmkbgaaDoorA22
import Derived.Test.YtoaialdcgmkbgaaDoorProg
set_option linter.all false
namespace Go.AM
open Go Go.Proofs
theorem mixed : Tryd.prog.follows .mixedOrders = true := by kernel_rfl
def gtL : List (Nat × List D) := [(0, [.int .i64 0, .int .i64 0, .int .i64 0, .int .i64 0, .int .i64 1, .int .i64 0, .int .i64 2, .int .i64 0, .int .i64 0, .int .i64 1, .int .i64 1, .int .i64 1, .int .i64 2, .int .i64 1, .int .i64 0, .int .i64 2, .int .i64 1, .int .i64 2, .int .i64 2, .int .i64 2])]
def gtab : Nat → Option (List D) := gtFind gtL
abbrev TSp := Sp Tryd.prog gtab
abbrev TSpM := SpM Tryd.prog gtab
abbrev TSpC := SpC Tryd.prog gtab
/-- glazier/glaziertop.TopShaped -/
def c_top_TopShaped : C := .seq (.reg false [
 ⟨(some 8), none, .mv false (.c (.bool false)), none⟩] (some [0, 1, 2, 3])) (
.seq (.seq (.reg false [
 ⟨(some 26), none, .call false 4 [], none⟩,
 ⟨(some 27), none, .not (.t 26), none⟩] (some [0, 1, 2, 3, 27])) (
.ite (.t 27) (
 .seq (.reg false [
 ⟨(some 8), none, .mv false (.c (.bool false)), none⟩] (some [8])) (
 .ret)) (
 .skip))) (
.seq (.seq (.reg false [
 ⟨(some 28), none, .mv false (.t 0), none⟩,
 ⟨(some 29), none, .len false (.t 28), none⟩,
 ⟨(some 30), none, .bin .gtr .i64 (.t 29) (.c (.int .i64 20)), none⟩] (some [0, 1, 2, 3, 30])) (
.ite (.t 30) (
 .seq (.reg false [
 ⟨(some 8), none, .mv false (.c (.bool true)), none⟩] (some [8])) (
 .ret)) (
 .skip))) (
.seq (.reg false [
 ⟨(some 31), none, .mv false (.t 1), none⟩,
 ⟨(some 32), none, .mv false (.t 2), none⟩,
 ⟨(some 33), none, .call false 5 [(.c (.int .i8 0)), (.c (.int .i8 0)), (.t 31), (.t 32)], none⟩,
 ⟨(some 9), none, .alloc [(.int .i64 0), (.int .i64 0), (.int .i64 0), (.int .i64 0)], none⟩,
 ⟨none, none, .st (some 4) (.t 9) (.t 33), none⟩] (some [0, 3, 9])) (
.seq (.reg true [
 ⟨(some 34), none, .mv false (.t 0), none⟩,
 ⟨(some 35), none, .callC 7 [(.t 34)], none⟩,
 ⟨(some 36), none, .ld (some 4) (.t 9), (some [0])⟩,
 ⟨(some 37), none, .callC 6 [(.t 35), (.t 36)], none⟩,
 ⟨(some 10), none, .alloc [(.ls 4 [])], (some [1])⟩,
 ⟨none, none, .st (some 1) (.t 10) (.t 37), none⟩] (some [3, 9, 10])) (
.seq (.reg false [
 ⟨(some 39), none, .ld (some 1) (.t 10), none⟩,
 ⟨(some 40), none, .fld 2 (.t 9), none⟩,
 ⟨(some 41), none, .ld none (.t 40), none⟩,
 ⟨(some 42), none, .fld 3 (.t 9), none⟩,
 ⟨(some 43), none, .ld none (.t 42), none⟩,
 ⟨(some 44), none, .call false 8 [(.t 39), (.t 41), (.t 43)], none⟩,
 ⟨(some 38), none, .mv false (.t 44), none⟩,
 ⟨(some 45), none, .ext (.t 38) 0, none⟩,
 ⟨(some 46), none, .ext (.t 38) 1, none⟩,
 ⟨(some 11), none, .mv false (.t 45), none⟩,
 ⟨(some 12), none, .mv false (.t 46), none⟩] (some [3, 9, 10, 11, 12])) (
.seq (.reg false [
 ⟨(some 48), none, .fld 2 (.t 9), none⟩,
 ⟨(some 49), none, .ld none (.t 48), none⟩,
 ⟨(some 50), none, .fld 3 (.t 9), none⟩,
 ⟨(some 51), none, .ld none (.t 50), none⟩,
 ⟨(some 52), none, .mv false (.t 11), none⟩,
 ⟨(some 53), none, .call false 9 [(.t 49), (.t 51), (.t 52)], none⟩,
 ⟨(some 47), none, .mv false (.t 53), none⟩,
 ⟨(some 54), none, .ext (.t 47) 0, none⟩,
 ⟨(some 55), none, .ext (.t 47) 1, none⟩,
 ⟨(some 13), none, .alloc [(.ls 4 [])], none⟩,
 ⟨none, none, .st (some 1) (.t 13) (.t 54), none⟩,
 ⟨(some 14), none, .mv false (.t 55), none⟩] (some [3, 9, 10, 12, 13, 14])) (
.seq (.reg false [
 ⟨(some 56), none, .ld (some 1) (.t 13), none⟩,
 ⟨(some 57), none, .fld 2 (.t 9), none⟩,
 ⟨(some 58), none, .ld none (.t 57), none⟩,
 ⟨(some 59), none, .fld 3 (.t 9), none⟩,
 ⟨(some 60), none, .ld none (.t 59), none⟩,
 ⟨(some 61), none, .mv false (.t 3), none⟩,
 ⟨(some 62), none, .call false 10 [(.t 56), (.t 58), (.t 60), (.t 61)], none⟩,
 ⟨(some 15), none, .alloc [(.ls 4 [])], none⟩,
 ⟨none, none, .st (some 1) (.t 15) (.t 62), none⟩] (some [3, 9, 10, 12, 13, 14, 15])) (
.seq (.reg false [
 ⟨(some 64), none, .ld (some 1) (.t 10), none⟩,
 ⟨(some 65), none, .call false 11 [(.t 64), (.c (.int .i64 1))], none⟩,
 ⟨(some 63), none, .mv false (.t 65), none⟩,
 ⟨(some 66), none, .ext (.t 63) 0, none⟩,
 ⟨(some 67), none, .ext (.t 63) 1, none⟩,
 ⟨(some 16), none, .alloc [(.ls 4 [])], none⟩,
 ⟨none, none, .st (some 1) (.t 16) (.t 66), none⟩,
 ⟨(some 17), none, .mv false (.t 67), none⟩] (some [3, 9, 10, 12, 13, 14, 15, 16, 17])) (
.seq (.reg false [
 ⟨(some 69), none, .ld (some 1) (.t 16), none⟩,
 ⟨(some 70), none, .call false 11 [(.t 69), (.c (.int .i64 (-1)))], none⟩,
 ⟨(some 68), none, .mv false (.t 70), none⟩,
 ⟨(some 71), none, .ext (.t 68) 0, none⟩,
 ⟨(some 72), none, .ext (.t 68) 1, none⟩,
 ⟨(some 18), none, .alloc [(.ls 4 [])], none⟩,
 ⟨none, none, .st (some 1) (.t 18) (.t 71), none⟩,
 ⟨(some 19), none, .mv false (.t 72), none⟩] (some [3, 9, 10, 12, 13, 14, 15, 17, 18, 19])) (
.seq (.reg false [
 ⟨(some 74), none, .ld (some 1) (.t 10), none⟩,
 ⟨(some 75), none, .call false 11 [(.t 74), (.c (.int .i64 (-1)))], none⟩,
 ⟨(some 73), none, .mv false (.t 75), none⟩,
 ⟨(some 76), none, .ext (.t 73) 0, none⟩,
 ⟨(some 77), none, .ext (.t 73) 1, none⟩,
 ⟨(some 20), none, .alloc [(.ls 4 [])], none⟩,
 ⟨none, none, .st (some 1) (.t 20) (.t 76), none⟩,
 ⟨(some 21), none, .mv false (.t 77), none⟩] (some [3, 9, 10, 12, 13, 14, 15, 17, 18, 19, 20, 21])) (
.seq (.seq (.reg true [
 ⟨(some 78), none, .mv false (.t 12), none⟩,
 ⟨(some 79), none, .bin .neq .i64 (.t 78) (.c (.int .i64 0)), none⟩,
 ⟨(some 80), none, .mv false (.t 79), none⟩,
 ⟨(some 81), some (80, false), .mv false (.t 14), none⟩,
 ⟨(some 82), some (80, false), .bin .neq .i64 (.t 81) (.c (.int .i64 0)), none⟩,
 ⟨(some 83), none, .pick (.t 80) (.c (.bool true)) (.t 82), none⟩,
 ⟨(some 84), none, .mv false (.t 83), none⟩,
 ⟨(some 85), some (84, false), .mv false (.t 17), none⟩,
 ⟨(some 86), some (84, false), .bin .neq .i64 (.t 85) (.c (.int .i64 0)), none⟩,
 ⟨(some 87), none, .pick (.t 84) (.c (.bool true)) (.t 86), none⟩,
 ⟨(some 88), none, .mv false (.t 87), none⟩,
 ⟨(some 89), some (88, false), .mv false (.t 19), none⟩,
 ⟨(some 90), some (88, false), .bin .neq .i64 (.t 89) (.c (.int .i64 0)), none⟩,
 ⟨(some 91), none, .pick (.t 88) (.c (.bool true)) (.t 90), none⟩,
 ⟨(some 92), none, .mv false (.t 91), none⟩,
 ⟨(some 93), some (92, false), .mv false (.t 21), none⟩,
 ⟨(some 94), some (92, false), .bin .neq .i64 (.t 93) (.c (.int .i64 0)), none⟩,
 ⟨(some 95), none, .pick (.t 92) (.c (.bool true)) (.t 94), none⟩,
 ⟨(some 96), none, .mv false (.t 95), none⟩,
 ⟨(some 97), some (96, false), .ld (some 1) (.t 13), none⟩,
 ⟨(some 98), some (96, false), .ld (some 1) (.t 10), none⟩,
 ⟨(some 99), some (96, false), .call false 12 [(.t 97), (.t 98)], none⟩,
 ⟨(some 100), some (96, false), .not (.t 99), none⟩,
 ⟨(some 101), none, .pick (.t 96) (.c (.bool true)) (.t 100), none⟩,
 ⟨(some 102), none, .mv false (.t 101), none⟩,
 ⟨(some 103), some (102, false), .ld (some 1) (.t 10), none⟩,
 ⟨(some 104), some (102, false), .ld (some 1) (.t 18), none⟩,
 ⟨(some 105), some (102, false), .call false 13 [(.t 103), (.t 104)], none⟩,
 ⟨(some 106), some (102, false), .not (.t 105), none⟩,
 ⟨(some 107), none, .pick (.t 102) (.c (.bool true)) (.t 106), none⟩,
 ⟨(some 108), none, .mv false (.t 107), none⟩,
 ⟨(some 109), some (108, false), .ld (some 1) (.t 20), none⟩,
 ⟨(some 110), some (108, false), .ld (some 1) (.t 10), none⟩,
 ⟨(some 111), some (108, false), .ld (some 1) (.t 10), none⟩,
 ⟨(some 112), some (108, false), .call false 15 [(.t 111)], none⟩,
 ⟨(some 113), some (108, false), .call false 14 [(.t 110), (.t 112)], none⟩,
 ⟨(some 114), some (108, false), .call false 13 [(.t 109), (.t 113)], none⟩,
 ⟨(some 115), some (108, false), .not (.t 114), none⟩,
 ⟨(some 116), none, .pick (.t 108) (.c (.bool true)) (.t 115), none⟩] (some [3, 9, 10, 15, 116])) (
.ite (.t 116) (
 .seq (.reg false [
 ⟨(some 8), none, .mv false (.c (.bool false)), none⟩] (some [8])) (
 .ret)) (
 .skip))) (
.seq (.seq (.reg false [
 ⟨(some 117), none, .fld 3 (.t 9), none⟩,
 ⟨(some 118), none, .ld none (.t 117), none⟩,
 ⟨(some 119), none, .mv false (.c (.int .i64 0)), none⟩] (some [3, 9, 10, 15, 118, 119])) (
.blk 0 (
 .loop (
 .seq (.reg false [
 ⟨(some 120), none, .bin .lss .i64 (.t 119) (.t 118), none⟩] (some [3, 9, 10, 15, 118, 119, 120])) (
 .seq (.ite (.t 120) (
 .skip) (
 .exit 0)) (
 .seq (.blk 1 (
 .seq (.reg false [
 ⟨(some 121), none, .mv false (.t 119), none⟩,
 ⟨(some 22), none, .mv false (.t 121), none⟩] (some [3, 9, 10, 15, 22, 118, 119])) (
 .seq (.reg false [
 ⟨(some 122), none, .fld 2 (.t 9), none⟩,
 ⟨(some 123), none, .ld none (.t 122), none⟩,
 ⟨(some 124), none, .mv false (.c (.int .i64 0)), none⟩] (some [3, 9, 10, 15, 22, 118, 119, 123, 124])) (
 .blk 2 (
 .loop (
 .seq (.reg false [
 ⟨(some 125), none, .bin .lss .i64 (.t 124) (.t 123), none⟩] (some [3, 9, 10, 15, 22, 118, 119, 123, 124, 125])) (
 .seq (.ite (.t 125) (
 .skip) (
 .exit 2)) (
 .seq (.blk 3 (
 .seq (.reg false [
 ⟨(some 126), none, .mv false (.t 124), none⟩,
 ⟨(some 23), none, .mv false (.t 126), none⟩] (some [3, 9, 10, 15, 22, 23, 118, 119, 123, 124])) (
 .seq (.reg true [
 ⟨(some 127), none, .mv false (.t 23), none⟩,
 ⟨(some 128), none, .fld 3 (.t 9), none⟩,
 ⟨(some 129), none, .ld none (.t 128), none⟩,
 ⟨(some 130), none, .bin .sub .i64 (.t 129) (.c (.int .i64 1)), none⟩,
 ⟨(some 131), none, .mv false (.t 22), none⟩,
 ⟨(some 132), none, .bin .sub .i64 (.t 130) (.t 131), none⟩,
 ⟨(some 24), none, .mv false (.t 127), none⟩,
 ⟨(some 25), none, .mv false (.t 132), none⟩] (some [3, 9, 10, 15, 22, 23, 24, 25, 118, 119, 123, 124])) (
 .seq (.seq (.reg false [
 ⟨(some 133), none, .mv false (.t 3), none⟩] (some [3, 9, 10, 15, 22, 23, 24, 25, 118, 119, 123, 124, 133])) (
 .ite (.t 133) (
 .reg false [
 ⟨(some 134), none, .fld 2 (.t 9), none⟩,
 ⟨(some 135), none, .ld none (.t 134), none⟩,
 ⟨(some 136), none, .bin .sub .i64 (.t 135) (.c (.int .i64 1)), none⟩,
 ⟨(some 137), none, .mv false (.t 23), none⟩,
 ⟨(some 138), none, .bin .sub .i64 (.t 136) (.t 137), none⟩,
 ⟨(some 139), none, .mv false (.t 22), none⟩,
 ⟨(some 24), none, .mv false (.t 138), none⟩,
 ⟨(some 25), none, .mv false (.t 139), none⟩] (some [3, 9, 10, 15, 22, 23, 24, 25, 118, 119, 123, 124])) (
 .skip))) (
 .seq (.reg true [
 ⟨(some 140), none, .ld (some 1) (.t 15), none⟩,
 ⟨(some 141), none, .mv false (.t 24), none⟩,
 ⟨(some 142), none, .mv false (.t 25), none⟩,
 ⟨(some 143), none, .call false 16 [(.t 140), (.t 141), (.t 142)], none⟩,
 ⟨(some 144), none, .ld (some 1) (.t 10), none⟩,
 ⟨(some 145), none, .mv false (.t 23), none⟩,
 ⟨(some 146), none, .mv false (.t 22), none⟩,
 ⟨(some 147), none, .call false 16 [(.t 144), (.t 145), (.t 146)], none⟩,
 ⟨(some 148), none, .eqb true false (.t 143) (.t 147), none⟩] (some [3, 9, 10, 15, 22, 118, 119, 123, 124, 148])) (
 .ite (.t 148) (
 .seq (.reg false [
 ⟨(some 8), none, .mv false (.c (.bool false)), none⟩] (some [8])) (
 .ret)) (
 .skip))))))) (
 .reg false [
 ⟨(some 149), none, .bin .add .i64 (.t 124) (.c (.int .i64 1)), none⟩,
 ⟨(some 124), none, .mv false (.t 149), none⟩] (some [3, 9, 10, 15, 22, 118, 119, 123, 124])))))))))) (
 .reg false [
 ⟨(some 150), none, .bin .add .i64 (.t 119) (.c (.int .i64 1)), none⟩,
 ⟨(some 119), none, .mv false (.t 150), none⟩] (some [3, 9, 10, 15, 118, 119])))))))) (
.seq (.reg true [
 ⟨(some 151), none, .ld (some 1) (.t 15), none⟩,
 ⟨(some 152), none, .call false 17 [(.t 151)], none⟩,
 ⟨(some 153), none, .ld (some 1) (.t 10), none⟩,
 ⟨(some 154), none, .call false 17 [(.t 153)], none⟩,
 ⟨(some 155), none, .bin .eql .i64 (.t 152) (.t 154), none⟩,
 ⟨(some 8), none, .mv false (.t 155), none⟩] (some [8])) (
.ret))))))))))))))
set_option maxRecDepth 1000000 in
theorem comp_top_TopShaped : (Tryd.f3.body.bind fun code => compC Tryd.prog Tryd.f3.ntmps code c_top_TopShaped) = some c_top_TopShaped.bare := by kernel_rfl
def r_top_TopShaped : List R := [.t 8]
theorem spo_top_TopShaped {ds : List D} {d : D} (hn : Nat.ble ds.length 156 = true) (h : run TSpC gtab 0 c_top_TopShaped (retK r_top_TopShaped (· = d)) ⟨env0 0 ds, []⟩) : TSp 3 ds d := Sp_of mixed c_top_TopShaped r_top_TopShaped (fn := Tryd.f3) (by kernel_rfl) (by kernel_rfl) comp_top_TopShaped (by kernel_rfl) hn h
/-- glazier/glaziertop.gravityAwake -/
def c_top_gravityAwake : C := .seq (.reg false [
 ⟨(some 0), none, .mv false (.c (.bool false)), none⟩] (some [])) (
.seq (.reg false [
 ⟨(some 6), none, .bld [(.int .i64 0), (.int .i64 0), (.int .i64 0), (.int .i64 0)] [(0, none, (.c (.int .i64 3))), (2, none, (.c (.int .i64 1))), (3, none, (.c (.int .i64 1)))], none⟩,
 ⟨(some 7), none, .bsl none 25 4 (some 4) [(.t 6)], none⟩,
 ⟨(some 8), none, .call false 7 [(.t 7)], none⟩,
 ⟨(some 1), none, .alloc [(.ls 4 [])], none⟩,
 ⟨none, none, .st (some 1) (.t 1) (.t 8), none⟩] (some [1])) (
.seq (.reg false [
 ⟨(some 10), none, .bld [(.int .i64 0), (.int .i64 0), (.int .i64 0), (.int .i64 0)] [(2, none, (.c (.int .i64 4))), (3, none, (.c (.int .i64 1)))], none⟩,
 ⟨(some 11), none, .bld [(.int .i64 0), (.int .i64 0), (.int .i64 0), (.int .i64 0)] [(2, none, (.c (.int .i64 6))), (3, none, (.c (.int .i64 1)))], none⟩,
 ⟨(some 12), none, .call false 18 [(.c (.int .i64 6)), (.t 10), (.t 11)], none⟩,
 ⟨(some 9), none, .mv false (.t 12), none⟩,
 ⟨(some 13), none, .ext (.t 9) 0, none⟩,
 ⟨(some 14), none, .ext (.t 9) 1, none⟩,
 ⟨(some 15), none, .ext (.t 9) 2, none⟩,
 ⟨(some 2), none, .alloc [(.int .i64 0), (.int .i64 0)], none⟩,
 ⟨(some 3), none, .alloc [(.int .i64 0), (.int .i64 0), (.int .i64 0), (.int .i64 0)], none⟩,
 ⟨none, none, .st (some 2) (.t 2) (.t 13), none⟩,
 ⟨none, none, .st (some 4) (.t 3) (.t 14), none⟩,
 ⟨(some 4), none, .mv false (.t 15), none⟩] (some [1, 2, 3, 4])) (
.seq (.reg true [
 ⟨(some 16), none, .ld (some 1) (.t 1), (some [0])⟩,
 ⟨(some 17), none, .fld 0 (.t 2), none⟩,
 ⟨(some 18), none, .ld none (.t 17), (some [1])⟩,
 ⟨(some 19), none, .fld 1 (.t 2), none⟩,
 ⟨(some 20), none, .ld none (.t 19), (some [1])⟩,
 ⟨(some 21), none, .callC 19 [(.t 16), (.t 18), (.t 20)], none⟩,
 ⟨(some 22), none, .ld (some 4) (.t 3), (some [2])⟩,
 ⟨(some 23), none, .callC 6 [(.t 21), (.t 22)], none⟩,
 ⟨(some 5), none, .alloc [(.ls 4 [])], (some [3])⟩,
 ⟨none, none, .st (some 1) (.t 5) (.t 23), none⟩] (some [1, 4, 5])) (
.seq (.reg false [
 ⟨(some 24), none, .mv false (.t 4), none⟩,
 ⟨(some 25), none, .mv false (.t 24), none⟩,
 ⟨(some 26), some (25, true), .ld (some 1) (.t 5), none⟩,
 ⟨(some 27), some (25, true), .call false 16 [(.t 26), (.c (.int .i64 5)), (.c (.int .i64 0))], none⟩,
 ⟨(some 28), none, .pick (.t 25) (.t 27) (.c (.bool false)), none⟩,
 ⟨(some 29), none, .mv false (.t 28), none⟩,
 ⟨(some 30), some (29, true), .ld (some 1) (.t 5), none⟩,
 ⟨(some 31), some (29, true), .call false 17 [(.t 30)], none⟩,
 ⟨(some 32), some (29, true), .bin .eql .i64 (.t 31) (.c (.int .i64 1)), none⟩,
 ⟨(some 33), none, .pick (.t 29) (.t 32) (.c (.bool false)), none⟩,
 ⟨(some 34), none, .mv false (.t 33), none⟩,
 ⟨(some 35), some (34, true), .ld (some 1) (.t 1), none⟩,
 ⟨(some 36), some (34, true), .call false 15 [(.t 35)], none⟩,
 ⟨(some 37), some (34, true), .call false 17 [(.t 36)], none⟩,
 ⟨(some 38), some (34, true), .bin .eql .i64 (.t 37) (.c (.int .i64 1)), none⟩,
 ⟨(some 39), none, .pick (.t 34) (.t 38) (.c (.bool false)), none⟩,
 ⟨(some 0), none, .mv false (.t 39), none⟩] (some [0])) (
.ret)))))
set_option maxRecDepth 1000000 in
theorem comp_top_gravityAwake : (Tryd.f4.body.bind fun code => compC Tryd.prog Tryd.f4.ntmps code c_top_gravityAwake) = some c_top_gravityAwake.bare := by kernel_rfl
def r_top_gravityAwake : List R := [.t 0]
theorem spo_top_gravityAwake {ds : List D} {d : D} (hn : Nat.ble ds.length 40 = true) (h : run TSpC gtab 0 c_top_gravityAwake (retK r_top_gravityAwake (· = d)) ⟨env0 0 ds, []⟩) : TSp 4 ds d := Sp_of mixed c_top_gravityAwake r_top_gravityAwake (fn := Tryd.f4) (by kernel_rfl) (by kernel_rfl) comp_top_gravityAwake (by kernel_rfl) hn h
/-- glazier/glaziertop.gravitySmall -/
def c_top_gravitySmall : C := .seq (.reg false [
 ⟨(some 8), none, .alloc [(.int .i64 0), (.int .i64 0), (.int .i64 0), (.int .i64 0)], none⟩] (some [0, 1, 2, 3, 8])) (
.seq (.reg false [
 ⟨(some 9), none, .mv false (.t 0), none⟩,
 ⟨(some 10), none, .conv .i64 (.t 9), none⟩,
 ⟨(some 11), none, .mv false (.t 1), none⟩,
 ⟨(some 12), none, .conv .i64 (.t 11), none⟩,
 ⟨(some 13), none, .mv false (.t 2), none⟩,
 ⟨(some 14), none, .bin .rem .u8 (.t 13) (.c (.int .u8 24)), none⟩,
 ⟨(some 15), none, .conv .i64 (.t 14), none⟩,
 ⟨(some 16), none, .bin .add .i64 (.t 15) (.c (.int .i64 1)), none⟩,
 ⟨(some 17), none, .mv false (.t 3), none⟩,
 ⟨(some 18), none, .bin .rem .u8 (.t 17) (.c (.int .u8 24)), none⟩,
 ⟨(some 19), none, .conv .i64 (.t 18), none⟩,
 ⟨(some 20), none, .bin .add .i64 (.t 19) (.c (.int .i64 1)), none⟩,
 ⟨(some 21), none, .bld [(.int .i64 0), (.int .i64 0), (.int .i64 0), (.int .i64 0)] [(0, none, (.t 10)), (1, none, (.t 12)), (2, none, (.t 16)), (3, none, (.t 20))], none⟩,
 ⟨none, none, .st (some 4) (.t 8) (.t 21), none⟩] (some [8])) (
.ret))
set_option maxRecDepth 1000000 in
theorem comp_top_gravitySmall : (Tryd.f5.body.bind fun code => compC Tryd.prog Tryd.f5.ntmps code c_top_gravitySmall) = some c_top_gravitySmall.bare := by kernel_rfl
def r_top_gravitySmall : List R := [.cell 8 (some 4)]
theorem spo_top_gravitySmall {ds : List D} {d : D} (hn : Nat.ble ds.length 22 = true) (h : run TSpC gtab 0 c_top_gravitySmall (retK r_top_gravitySmall (· = d)) ⟨env0 0 ds, []⟩) : TSp 5 ds d := Sp_of mixed c_top_gravitySmall r_top_gravitySmall (fn := Tryd.f5) (by kernel_rfl) (by kernel_rfl) comp_top_gravitySmall (by kernel_rfl) hn h
/-- glazier/region.Within -/
def c_region_Within : C := .seq (.reg false [
 ⟨(some 2), none, .box true (.t 0), none⟩,
 ⟨(some 3), none, .box true (.t 1), none⟩,
 ⟨(some 4), none, .alloc [(.ls 4 [])], none⟩] (some [2, 3, 4])) (
.seq (.reg true [
 ⟨(some 5), none, .ld (some 1) (.t 2), none⟩,
 ⟨(some 6), none, .ld (some 4) (.t 3), none⟩,
 ⟨(some 7), none, .bsl none 25 4 (some 4) [(.t 6)], none⟩,
 ⟨(some 8), none, .call false 7 [(.t 7)], none⟩,
 ⟨(some 9), none, .call false 20 [(.t 5), (.t 8)], none⟩,
 ⟨none, none, .st (some 1) (.t 4) (.t 9), none⟩] (some [4])) (
.ret))
set_option maxRecDepth 1000000 in
theorem comp_region_Within : (Tryd.f6.body.bind fun code => compC Tryd.prog Tryd.f6.ntmps code c_region_Within) = some c_region_Within.bare := by kernel_rfl
def r_region_Within : List R := [.cell 4 (some 1)]
theorem spo_region_Within {ds : List D} {d : D} (hn : Nat.ble ds.length 10 = true) (h : run TSpC gtab 0 c_region_Within (retK r_region_Within (· = d)) ⟨env0 0 ds, []⟩) : TSp 6 ds d := Sp_of mixed c_region_Within r_region_Within (fn := Tryd.f6) (by kernel_rfl) (by kernel_rfl) comp_region_Within (by kernel_rfl) hn h
/-- glazier/band.Of -/
def c_band_Of : C := .seq (.reg false [
 ⟨(some 2), none, .alloc [(.ls 4 [])], none⟩] (some [0, 2])) (
.seq (.reg false [
 ⟨(some 3), none, .nilS 25 4, none⟩] (some [0, 2, 3])) (
.seq (.seq (.reg false [
 ⟨(some 18), none, .mv false (.t 0), none⟩,
 ⟨(some 19), none, .len false (.t 18), none⟩,
 ⟨(some 20), none, .mv false (.c (.int .i64 0)), none⟩] (some [2, 3, 18, 19, 20])) (
.blk 0 (
 .loop (
 .seq (.reg false [
 ⟨(some 21), none, .bin .lss .i64 (.t 20) (.t 19), none⟩] (some [2, 3, 18, 19, 20, 21])) (
 .seq (.ite (.t 21) (
 .skip) (
 .exit 0)) (
 .seq (.blk 1 (
 .seq (.reg false [
 ⟨(some 22), none, .ixs 4 (.t 18) (.t 20), none⟩,
 ⟨(some 23), none, .ld (some 4) (.t 22), none⟩,
 ⟨(some 5), none, .alloc [(.int .i64 0), (.int .i64 0), (.int .i64 0), (.int .i64 0)], none⟩,
 ⟨none, none, .st (some 4) (.t 5) (.t 23), none⟩] (some [2, 3, 5, 18, 19, 20])) (
 .seq (.reg false [
 ⟨(some 24), none, .ld (some 4) (.t 5), none⟩,
 ⟨(some 25), none, .call false 21 [(.t 24)], none⟩] (some [2, 3, 5, 18, 19, 20, 25])) (
 .ite (.t 25) (
 .reg false [
 ⟨(some 26), none, .mv false (.t 3), none⟩,
 ⟨(some 27), none, .ld (some 4) (.t 5), none⟩,
 ⟨(some 28), none, .bsl none 25 4 (some 4) [(.t 27)], none⟩,
 ⟨(some 29), none, .app 25 4 32 (.t 26) (.t 28), none⟩,
 ⟨(some 3), none, .mv false (.t 29), none⟩] (some [2, 3, 18, 19, 20])) (
 .skip))))) (
 .reg false [
 ⟨(some 30), none, .bin .add .i64 (.t 20) (.c (.int .i64 1)), none⟩,
 ⟨(some 20), none, .mv false (.t 30), none⟩] (some [2, 3, 18, 19, 20])))))))) (
.seq (.reg false [
 ⟨(some 31), none, .mv false (.t 3), none⟩,
 ⟨(some 32), none, .call true 22 [(.t 31), (.c (.fn 23 []))], none⟩] (some [2, 3])) (
.seq (.reg false [
 ⟨(some 33), none, .mv false (.t 3), none⟩,
 ⟨(some 34), none, .call false 26 [(.t 33)], none⟩,
 ⟨(some 6), none, .mv false (.t 34), none⟩] (some [2, 3, 6])) (
.seq (.reg false [
 ⟨(some 7), none, .alloc [(.bsl 25 0 4 0)], none⟩,
 ⟨(some 8), none, .nilS 25 4, none⟩] (some [2, 3, 6, 7, 8])) (
.seq (.reg false [
 ⟨(some 9), none, .mv false (.c (.int .i64 0)), none⟩] (some [2, 3, 6, 7, 8, 9])) (
.seq (.reg false [
 ⟨(some 10), none, .mv false (.c (.int .i64 0)), none⟩] (some [2, 3, 6, 7, 8, 9, 10])) (
.seq (.seq (.reg false [
 ⟨(some 11), none, .mv false (.c (.int .i64 0)), none⟩] (some [2, 3, 6, 7, 8, 9, 10, 11])) (
.blk 2 (
 .loop (
 .seq (.seq (.reg false [
 ⟨(some 35), none, .mv false (.t 11), none⟩,
 ⟨(some 36), none, .bin .add .i64 (.t 35) (.c (.int .i64 1)), none⟩,
 ⟨(some 37), none, .mv false (.t 6), none⟩,
 ⟨(some 38), none, .len false (.t 37), none⟩,
 ⟨(some 39), none, .bin .lss .i64 (.t 36) (.t 38), none⟩] (some [2, 3, 6, 7, 8, 9, 10, 11, 39])) (
 .ite (.t 39) (
 .skip) (
 .exit 2))) (
 .seq (.blk 3 (
 .seq (.reg true [
 ⟨(some 42), none, .mv false (.t 6), none⟩,
 ⟨(some 43), none, .mv false (.t 11), none⟩,
 ⟨(some 44), none, .ixs 1 (.t 42) (.t 43), (some [])⟩,
 ⟨(some 45), none, .ld none (.t 44), (some [])⟩,
 ⟨(some 46), none, .mv false (.t 6), none⟩,
 ⟨(some 47), none, .mv false (.t 11), none⟩,
 ⟨(some 48), none, .bin .add .i64 (.t 47) (.c (.int .i64 1)), none⟩,
 ⟨(some 49), none, .ixs 1 (.t 46) (.t 48), (some [])⟩,
 ⟨(some 50), none, .ld none (.t 49), (some [])⟩,
 ⟨(some 12), none, .alloc [(.int .i64 0)], (some [5, 6])⟩,
 ⟨(some 13), none, .alloc [(.int .i64 0)], (some [5, 6])⟩,
 ⟨none, none, .st none (.t 12) (.t 45), (some [5])⟩,
 ⟨none, none, .st none (.t 13) (.t 50), (some [6])⟩] (some [2, 3, 6, 7, 8, 9, 10, 11, 12, 13])) (
 .seq (.reg false [
 ⟨(some 51), none, .mv false (.t 8), none⟩,
 ⟨(some 52), none, .clo 28 [(.t 12)], none⟩,
 ⟨(some 53), none, .call true 27 [(.t 51), (.t 52)], none⟩,
 ⟨(some 8), none, .mv false (.t 53), none⟩] (some [2, 3, 6, 7, 8, 9, 10, 11, 12, 13])) (
 .seq (.reg false [
 ⟨(some 54), none, .mv false (.t 10), none⟩,
 ⟨(some 14), none, .mv false (.t 54), none⟩] (some [2, 3, 6, 7, 8, 9, 10, 11, 12, 13, 14])) (
 .seq (.blk 4 (
 .loop (
 .seq (.seq (.reg true [
 ⟨(some 55), none, .mv false (.t 10), none⟩,
 ⟨(some 56), none, .mv false (.t 3), none⟩,
 ⟨(some 57), none, .len false (.t 56), none⟩,
 ⟨(some 58), none, .bin .lss .i64 (.t 55) (.t 57), none⟩,
 ⟨(some 59), none, .mv false (.t 58), none⟩,
 ⟨(some 60), some (59, true), .mv false (.t 3), none⟩,
 ⟨(some 61), some (59, true), .mv false (.t 10), none⟩,
 ⟨(some 62), some (59, true), .ixs 4 (.t 60) (.t 61), none⟩,
 ⟨(some 63), some (59, true), .fld 1 (.t 62), none⟩,
 ⟨(some 64), some (59, true), .ld none (.t 63), none⟩,
 ⟨(some 65), some (59, true), .ld none (.t 12), none⟩,
 ⟨(some 66), some (59, true), .bin .eql .i64 (.t 64) (.t 65), none⟩,
 ⟨(some 67), none, .pick (.t 59) (.t 66) (.c (.bool false)), none⟩] (some [2, 3, 6, 7, 8, 9, 10, 11, 12, 13, 14, 67])) (
 .ite (.t 67) (
 .skip) (
 .exit 4))) (
 .blk 5 (
 .seq (.reg false [
 ⟨(some 68), none, .mv false (.t 8), none⟩,
 ⟨(some 69), none, .mv false (.t 3), none⟩,
 ⟨(some 70), none, .mv false (.t 10), none⟩,
 ⟨(some 71), none, .ixs 4 (.t 69) (.t 70), none⟩,
 ⟨(some 72), none, .ld (some 4) (.t 71), none⟩,
 ⟨(some 73), none, .bsl none 25 4 (some 4) [(.t 72)], none⟩,
 ⟨(some 74), none, .app 25 4 32 (.t 68) (.t 73), none⟩,
 ⟨(some 8), none, .mv false (.t 74), none⟩] (some [2, 3, 6, 7, 8, 9, 10, 11, 12, 13, 14])) (
 .reg false [
 ⟨(some 75), none, .mv false (.t 10), none⟩,
 ⟨(some 76), none, .bin .add .i64 (.t 75) (.c (.int .i64 1)), none⟩,
 ⟨(some 10), none, .mv false (.t 76), none⟩] (some [2, 3, 6, 7, 8, 9, 10, 11, 12, 13, 14]))))))) (
 .seq (.seq (.reg false [
 ⟨(some 77), none, .mv false (.t 10), none⟩,
 ⟨(some 78), none, .mv false (.t 14), none⟩,
 ⟨(some 79), none, .bin .gtr .i64 (.t 77) (.t 78), none⟩] (some [2, 3, 6, 7, 8, 9, 10, 11, 12, 13, 79])) (
 .ite (.t 79) (
 .reg false [
 ⟨(some 80), none, .mv false (.t 8), none⟩,
 ⟨(some 81), none, .call true 22 [(.t 80), (.c (.fn 29 []))], none⟩] (some [2, 3, 6, 7, 8, 9, 10, 11, 12, 13])) (
 .skip))) (
 .seq (.reg false [
 ⟨(some 82), none, .ld none (.t 7), none⟩,
 ⟨(some 83), none, .len false (.t 82), none⟩,
 ⟨(some 15), none, .mv false (.t 83), none⟩] (some [2, 3, 6, 7, 8, 9, 10, 11, 12, 13, 15])) (
 .seq (.seq (.reg false [
 ⟨(some 84), none, .mv false (.t 8), none⟩,
 ⟨(some 85), none, .call true 30 [(.t 84)], none⟩] (some [2, 3, 6, 7, 8, 9, 10, 11, 12, 13, 15, 85])) (
 .blk 6 (
 .rangef (.t 85) [86] (
 .reg false [
 ⟨(some 16), none, .alloc [(.int .i64 0), (.int .i64 0)], none⟩,
 ⟨none, none, .st (some 2) (.t 16) (.t 86), none⟩] (some [7, 12, 13, 16])) (
 .blk 7 (
 .reg false [
 ⟨(some 87), none, .ld none (.t 7), none⟩,
 ⟨(some 88), none, .fld 0 (.t 16), none⟩,
 ⟨(some 89), none, .ld none (.t 88), none⟩,
 ⟨(some 90), none, .ld none (.t 12), none⟩,
 ⟨(some 91), none, .fld 1 (.t 16), none⟩,
 ⟨(some 92), none, .ld none (.t 91), none⟩,
 ⟨(some 93), none, .fld 0 (.t 16), none⟩,
 ⟨(some 94), none, .ld none (.t 93), none⟩,
 ⟨(some 95), none, .bin .sub .i64 (.t 92) (.t 94), none⟩,
 ⟨(some 96), none, .ld none (.t 13), none⟩,
 ⟨(some 97), none, .ld none (.t 12), none⟩,
 ⟨(some 98), none, .bin .sub .i64 (.t 96) (.t 97), none⟩,
 ⟨(some 99), none, .bld [(.int .i64 0), (.int .i64 0), (.int .i64 0), (.int .i64 0)] [(0, none, (.t 89)), (1, none, (.t 90)), (2, none, (.t 95)), (3, none, (.t 98))], none⟩,
 ⟨(some 100), none, .bsl none 25 4 (some 4) [(.t 99)], none⟩,
 ⟨(some 101), none, .app 25 4 32 (.t 87) (.t 100), none⟩,
 ⟨none, none, .st none (.t 7) (.t 101), none⟩] (some [])))))) (
 .seq (.reg true [
 ⟨(some 102), none, .ld none (.t 7), none⟩,
 ⟨(some 103), none, .mv false (.t 9), none⟩,
 ⟨(some 104), none, .mv false (.t 15), none⟩,
 ⟨(some 105), none, .prm false false (.sub 22 true true) [(.t 102), (.t 103), (.t 104)], none⟩,
 ⟨(some 106), none, .ld none (.t 7), none⟩,
 ⟨(some 107), none, .mv false (.t 15), none⟩,
 ⟨(some 108), none, .prm false false (.sub 22 true false) [(.t 106), (.t 107)], none⟩,
 ⟨(some 109), none, .call false 31 [(.t 105), (.t 108)], none⟩] (some [2, 3, 6, 7, 8, 9, 10, 11, 12, 13, 15, 109])) (
 .ite (.t 109) (
 .seq (.seq (.reg false [
 ⟨(some 110), none, .mv false (.t 9), none⟩,
 ⟨(some 17), none, .mv false (.t 110), none⟩] (some [2, 3, 6, 7, 8, 9, 10, 11, 12, 13, 15, 17])) (
 .blk 8 (
 .loop (
 .seq (.seq (.reg false [
 ⟨(some 111), none, .mv false (.t 17), none⟩,
 ⟨(some 112), none, .mv false (.t 15), none⟩,
 ⟨(some 113), none, .bin .lss .i64 (.t 111) (.t 112), none⟩] (some [2, 3, 6, 7, 8, 9, 10, 11, 12, 13, 15, 17, 113])) (
 .ite (.t 113) (
 .skip) (
 .exit 8))) (
 .seq (.blk 9 (
 .reg true [
 ⟨(some 116), none, .ld none (.t 7), none⟩,
 ⟨(some 117), none, .mv false (.t 17), none⟩,
 ⟨(some 118), none, .ixs 4 (.t 116) (.t 117), none⟩,
 ⟨(some 119), none, .fld 3 (.t 118), none⟩,
 ⟨(some 120), none, .ld none (.t 119), none⟩,
 ⟨(some 121), none, .ld none (.t 13), none⟩,
 ⟨(some 122), none, .ld none (.t 12), none⟩,
 ⟨(some 123), none, .bin .sub .i64 (.t 121) (.t 122), none⟩,
 ⟨(some 124), none, .bin .add .i64 (.t 120) (.t 123), none⟩,
 ⟨(some 125), none, .ixs 4 (.t 116) (.t 117), none⟩,
 ⟨(some 126), none, .fld 3 (.t 125), none⟩,
 ⟨none, none, .st none (.t 126) (.t 124), none⟩] (some [2, 3, 6, 7, 8, 9, 10, 11, 12, 13, 15, 17]))) (
 .reg false [
 ⟨(some 114), none, .mv false (.t 17), none⟩,
 ⟨(some 115), none, .bin .add .i64 (.t 114) (.c (.int .i64 1)), none⟩,
 ⟨(some 17), none, .mv false (.t 115), none⟩] (some [2, 3, 6, 7, 8, 9, 10, 11, 12, 13, 15, 17]))))))) (
 .reg false [
 ⟨(some 127), none, .ld none (.t 7), none⟩,
 ⟨(some 128), none, .mv false (.t 15), none⟩,
 ⟨(some 129), none, .prm false true (.trc 22) [(.t 127), (.t 128)], none⟩,
 ⟨none, none, .st none (.t 7) (.t 129), none⟩] (some [2, 3, 6, 7, 8, 9, 10, 11]))) (
 .reg false [
 ⟨(some 130), none, .mv false (.t 15), none⟩,
 ⟨(some 9), none, .mv false (.t 130), none⟩] (some [2, 3, 6, 7, 8, 9, 10, 11])))))))))))) (
 .reg false [
 ⟨(some 40), none, .mv false (.t 11), none⟩,
 ⟨(some 41), none, .bin .add .i64 (.t 40) (.c (.int .i64 1)), none⟩,
 ⟨(some 11), none, .mv false (.t 41), none⟩] (some [2, 3, 6, 7, 8, 9, 10, 11]))))))) (
.seq (.reg false [
 ⟨(some 131), none, .ld none (.t 7), none⟩,
 ⟨(some 132), none, .call true 32 [(.t 131)], none⟩,
 ⟨(some 133), none, .bld [(.ls 4 [])] [(0, none, (.t 132))], none⟩,
 ⟨none, none, .st (some 1) (.t 2) (.t 133), none⟩] (some [2])) (
.ret))))))))))
set_option maxRecDepth 1000000 in
theorem comp_band_Of : (Tryd.f7.body.bind fun code => compC Tryd.prog Tryd.f7.ntmps code c_band_Of) = some c_band_Of.bare := by kernel_rfl
def r_band_Of : List R := [.cell 2 (some 1)]
theorem spo_band_Of {ds : List D} {d : D} (hn : Nat.ble ds.length 134 = true) (h : run TSpC gtab 0 c_band_Of (retK r_band_Of (· = d)) ⟨env0 0 ds, []⟩) : TSp 7 ds d := Sp_of mixed c_band_Of r_band_Of (fn := Tryd.f7) (by kernel_rfl) (by kernel_rfl) comp_band_Of (by kernel_rfl) hn h
/-- glazier/shape.Bits -/
def c_shape_Bits : C := .seq (.reg false [
 ⟨(some 3), none, .box true (.t 0), none⟩,
 ⟨(some 6), none, .mv false (.c (.str [])), none⟩,
 ⟨(some 7), none, .mv false (.c (.int .i64 0)), none⟩] (some [1, 2, 3])) (
.seq (.seq (.reg false [
 ⟨(some 14), none, .mv false (.t 1), none⟩,
 ⟨(some 15), none, .call false 33 [(.t 14)], none⟩,
 ⟨(some 16), none, .not (.t 15), none⟩,
 ⟨(some 17), none, .mv false (.t 16), none⟩,
 ⟨(some 18), some (17, false), .mv false (.t 2), none⟩,
 ⟨(some 19), some (17, false), .call false 33 [(.t 18)], none⟩,
 ⟨(some 20), some (17, false), .not (.t 19), none⟩,
 ⟨(some 21), none, .pick (.t 17) (.c (.bool true)) (.t 20), none⟩] (some [1, 2, 3, 21])) (
.ite (.t 21) (
 .seq (.reg false [
 ⟨(some 6), none, .mv false (.c (.str [])), none⟩,
 ⟨(some 7), none, .mv false (.c (.int .i64 17)), none⟩] (some [6, 7])) (
 .ret)) (
 .skip))) (
.seq (.reg false [
 ⟨(some 22), none, .mv false (.t 1), none⟩,
 ⟨(some 23), none, .bin .add .i64 (.t 22) (.c (.int .i64 7)), none⟩,
 ⟨(some 24), none, .bin .quo .i64 (.t 23) (.c (.int .i64 8)), none⟩,
 ⟨(some 8), none, .mv false (.t 24), none⟩] (some [1, 2, 3, 8])) (
.seq (.reg false [
 ⟨(some 25), none, .mv false (.t 8), none⟩,
 ⟨(some 26), none, .mv false (.t 2), none⟩,
 ⟨(some 27), none, .bin .mul .i64 (.t 25) (.t 26), none⟩,
 ⟨(some 28), none, .mks 5 1 none [(.int .u8 0)] (.t 27) (.t 27), none⟩,
 ⟨(some 9), none, .mv false (.t 28), none⟩] (some [1, 2, 3, 8, 9])) (
.seq (.seq (.reg false [
 ⟨(some 29), none, .ld (some 1) (.t 3), none⟩,
 ⟨(some 30), none, .mv false (.t 1), none⟩,
 ⟨(some 31), none, .mv false (.t 2), none⟩,
 ⟨(some 32), none, .bld [(.int .i64 0), (.int .i64 0), (.int .i64 0), (.int .i64 0)] [(2, none, (.t 30)), (3, none, (.t 31))], none⟩,
 ⟨(some 33), none, .call false 6 [(.t 29), (.t 32)], none⟩,
 ⟨(some 34), none, .call false 34 [(.t 33)], none⟩,
 ⟨(some 35), none, .len false (.t 34), none⟩,
 ⟨(some 36), none, .mv false (.c (.int .i64 0)), none⟩] (some [8, 9, 34, 35, 36])) (
.blk 0 (
 .loop (
 .seq (.reg false [
 ⟨(some 37), none, .bin .lss .i64 (.t 36) (.t 35), none⟩] (some [8, 9, 34, 35, 36, 37])) (
 .seq (.ite (.t 37) (
 .skip) (
 .exit 0)) (
 .seq (.blk 1 (
 .seq (.reg false [
 ⟨(some 38), none, .ixs 4 (.t 34) (.t 36), none⟩,
 ⟨(some 39), none, .ld (some 4) (.t 38), none⟩,
 ⟨(some 11), none, .alloc [(.int .i64 0), (.int .i64 0), (.int .i64 0), (.int .i64 0)], none⟩,
 ⟨none, none, .st (some 4) (.t 11) (.t 39), none⟩] (some [8, 9, 11, 34, 35, 36])) (
 .seq (.reg false [
 ⟨(some 40), none, .fld 1 (.t 11), none⟩,
 ⟨(some 41), none, .ld none (.t 40), none⟩,
 ⟨(some 12), none, .mv false (.t 41), none⟩] (some [8, 9, 11, 12, 34, 35, 36])) (
 .blk 2 (
 .loop (
 .seq (.seq (.reg false [
 ⟨(some 42), none, .mv false (.t 12), none⟩,
 ⟨(some 43), none, .fld 1 (.t 11), none⟩,
 ⟨(some 44), none, .ld none (.t 43), none⟩,
 ⟨(some 45), none, .fld 3 (.t 11), none⟩,
 ⟨(some 46), none, .ld none (.t 45), none⟩,
 ⟨(some 47), none, .bin .add .i64 (.t 44) (.t 46), none⟩,
 ⟨(some 48), none, .bin .lss .i64 (.t 42) (.t 47), none⟩] (some [8, 9, 11, 12, 34, 35, 36, 48])) (
 .ite (.t 48) (
 .skip) (
 .exit 2))) (
 .seq (.blk 3 (
 .seq (.reg false [
 ⟨(some 51), none, .fld 0 (.t 11), none⟩,
 ⟨(some 52), none, .ld none (.t 51), none⟩,
 ⟨(some 13), none, .mv false (.t 52), none⟩] (some [8, 9, 11, 12, 13, 34, 35, 36])) (
 .blk 4 (
 .loop (
 .seq (.seq (.reg false [
 ⟨(some 53), none, .mv false (.t 13), none⟩,
 ⟨(some 54), none, .fld 0 (.t 11), none⟩,
 ⟨(some 55), none, .ld none (.t 54), none⟩,
 ⟨(some 56), none, .fld 2 (.t 11), none⟩,
 ⟨(some 57), none, .ld none (.t 56), none⟩,
 ⟨(some 58), none, .bin .add .i64 (.t 55) (.t 57), none⟩,
 ⟨(some 59), none, .bin .lss .i64 (.t 53) (.t 58), none⟩] (some [8, 9, 11, 12, 13, 34, 35, 36, 59])) (
 .ite (.t 59) (
 .skip) (
 .exit 4))) (
 .seq (.blk 5 (
 .reg true [
 ⟨(some 62), none, .mv false (.t 9), none⟩,
 ⟨(some 63), none, .mv false (.t 12), none⟩,
 ⟨(some 64), none, .mv false (.t 8), none⟩,
 ⟨(some 65), none, .bin .mul .i64 (.t 63) (.t 64), none⟩,
 ⟨(some 66), none, .mv false (.t 13), none⟩,
 ⟨(some 67), none, .bin .quo .i64 (.t 66) (.c (.int .i64 8)), none⟩,
 ⟨(some 68), none, .bin .add .i64 (.t 65) (.t 67), none⟩,
 ⟨(some 69), none, .ixs 1 (.t 62) (.t 68), none⟩,
 ⟨(some 70), none, .ld none (.t 69), none⟩,
 ⟨(some 71), none, .mv false (.t 13), none⟩,
 ⟨(some 72), none, .bin .rem .i64 (.t 71) (.c (.int .i64 8)), none⟩,
 ⟨(some 73), none, .bin .shl .u8 (.c (.int .u8 1)) (.t 72), none⟩,
 ⟨(some 74), none, .bin .or .u8 (.t 70) (.t 73), none⟩,
 ⟨(some 75), none, .ixs 1 (.t 62) (.t 68), none⟩,
 ⟨none, none, .st none (.t 75) (.t 74), none⟩] (some [8, 9, 11, 12, 13, 34, 35, 36]))) (
 .reg false [
 ⟨(some 60), none, .mv false (.t 13), none⟩,
 ⟨(some 61), none, .bin .add .i64 (.t 60) (.c (.int .i64 1)), none⟩,
 ⟨(some 13), none, .mv false (.t 61), none⟩] (some [8, 9, 11, 12, 13, 34, 35, 36])))))))) (
 .reg false [
 ⟨(some 49), none, .mv false (.t 12), none⟩,
 ⟨(some 50), none, .bin .add .i64 (.t 49) (.c (.int .i64 1)), none⟩,
 ⟨(some 12), none, .mv false (.t 50), none⟩] (some [8, 9, 11, 12, 34, 35, 36]))))))))) (
 .reg false [
 ⟨(some 76), none, .bin .add .i64 (.t 36) (.c (.int .i64 1)), none⟩,
 ⟨(some 36), none, .mv false (.t 76), none⟩] (some [8, 9, 34, 35, 36])))))))) (
.seq (.reg false [
 ⟨(some 77), none, .mv false (.t 9), none⟩,
 ⟨(some 78), none, .b2s (.t 77), none⟩,
 ⟨(some 6), none, .mv false (.t 78), none⟩,
 ⟨(some 7), none, .mv false (.c (.int .i64 0)), none⟩] (some [6, 7])) (
.ret))))))
set_option maxRecDepth 1000000 in
theorem comp_shape_Bits : (Tryd.f8.body.bind fun code => compC Tryd.prog Tryd.f8.ntmps code c_shape_Bits) = some c_shape_Bits.bare := by kernel_rfl
def r_shape_Bits : List R := [.t 6, .t 7]
theorem spo_shape_Bits {ds : List D} {d : D} (hn : Nat.ble ds.length 79 = true) (h : run TSpC gtab 0 c_shape_Bits (retK r_shape_Bits (· = d)) ⟨env0 0 ds, []⟩) : TSp 8 ds d := Sp_of mixed c_shape_Bits r_shape_Bits (fn := Tryd.f8) (by kernel_rfl) (by kernel_rfl) comp_shape_Bits (by kernel_rfl) hn h
/-- glazier/shape.Of -/
def c_shape_Of : C := .seq (.reg false [
 ⟨(some 3), none, .box false (.t 0), none⟩,
 ⟨(some 6), none, .alloc [(.ls 4 [])], none⟩,
 ⟨(some 7), none, .alloc [(.int .i64 0)], none⟩] (some [1, 2, 3, 6, 7])) (
.seq (.seq (.reg false [
 ⟨(some 13), none, .ld none (.t 3), none⟩,
 ⟨(some 14), none, .call false 33 [(.t 13)], none⟩,
 ⟨(some 15), none, .not (.t 14), none⟩,
 ⟨(some 16), none, .mv false (.t 15), none⟩,
 ⟨(some 17), some (16, false), .mv false (.t 1), none⟩,
 ⟨(some 18), some (16, false), .call false 33 [(.t 17)], none⟩,
 ⟨(some 19), some (16, false), .not (.t 18), none⟩,
 ⟨(some 20), none, .pick (.t 16) (.c (.bool true)) (.t 19), none⟩] (some [1, 2, 3, 6, 7, 20])) (
.ite (.t 20) (
 .seq (.reg false [
 ⟨(some 21), none, .bld [(.ls 4 [])] [], none⟩,
 ⟨none, none, .st (some 1) (.t 6) (.t 21), none⟩,
 ⟨none, none, .st none (.t 7) (.c (.int .i64 17)), none⟩] (some [6, 7])) (
 .ret)) (
 .skip))) (
.seq (.reg false [
 ⟨(some 22), none, .ld none (.t 3), none⟩,
 ⟨(some 23), none, .bin .add .i64 (.t 22) (.c (.int .i64 7)), none⟩,
 ⟨(some 24), none, .bin .quo .i64 (.t 23) (.c (.int .i64 8)), none⟩,
 ⟨(some 8), none, .mv false (.t 24), none⟩] (some [1, 2, 3, 6, 7, 8])) (
.seq (.seq (.reg false [
 ⟨(some 25), none, .mv false (.t 2), none⟩,
 ⟨(some 26), none, .len true (.t 25), none⟩,
 ⟨(some 27), none, .mv false (.t 8), none⟩,
 ⟨(some 28), none, .mv false (.t 1), none⟩,
 ⟨(some 29), none, .bin .mul .i64 (.t 27) (.t 28), none⟩,
 ⟨(some 30), none, .bin .lss .i64 (.t 26) (.t 29), none⟩] (some [1, 2, 3, 6, 7, 8, 30])) (
.ite (.t 30) (
 .seq (.reg false [
 ⟨(some 31), none, .bld [(.ls 4 [])] [], none⟩,
 ⟨none, none, .st (some 1) (.t 6) (.t 31), none⟩,
 ⟨none, none, .st none (.t 7) (.c (.int .i64 3)), none⟩] (some [6, 7])) (
 .ret)) (
 .skip))) (
.seq (.seq (.reg false [
 ⟨(some 32), none, .mv false (.t 2), none⟩,
 ⟨(some 33), none, .len true (.t 32), none⟩,
 ⟨(some 34), none, .mv false (.t 8), none⟩,
 ⟨(some 35), none, .mv false (.t 1), none⟩,
 ⟨(some 36), none, .bin .mul .i64 (.t 34) (.t 35), none⟩,
 ⟨(some 37), none, .bin .gtr .i64 (.t 33) (.t 36), none⟩] (some [2, 3, 6, 7, 8, 37])) (
.ite (.t 37) (
 .seq (.reg false [
 ⟨(some 38), none, .bld [(.ls 4 [])] [], none⟩,
 ⟨none, none, .st (some 1) (.t 6) (.t 38), none⟩,
 ⟨none, none, .st none (.t 7) (.c (.int .i64 4)), none⟩] (some [6, 7])) (
 .ret)) (
 .skip))) (
.seq (.reg false [
 ⟨(some 9), none, .alloc [(.bsl 25 0 4 0)], none⟩] (some [2, 3, 6, 7, 8, 9])) (
.seq (.seq (.reg false [
 ⟨(some 39), none, .mv false (.t 8), none⟩,
 ⟨(some 40), none, .mv false (.t 2), none⟩,
 ⟨(some 41), none, .call true 35 [(.t 39), (.t 40)], none⟩] (some [3, 6, 7, 9, 41])) (
.blk 0 (
 .rangef (.t 41) [42, 43] (
 .seq (.reg false [
 ⟨(some 10), none, .mv false (.t 42), none⟩] (some [3, 6, 7, 9, 10, 43])) (
 .reg false [
 ⟨(some 11), none, .mv false (.t 43), none⟩] (some [3, 6, 7, 9, 10, 11]))) (
 .blk 1 (
 .seq (.seq (.reg false [
 ⟨(some 44), none, .mv false (.t 10), none⟩,
 ⟨(some 45), none, .ld none (.t 3), none⟩,
 ⟨(some 46), none, .bin .geq .i64 (.t 44) (.t 45), none⟩] (some [6, 7, 9, 10, 11, 46])) (
 .ite (.t 46) (
 .seq (.reg false [
 ⟨(some 47), none, .bld [(.ls 4 [])] [], none⟩,
 ⟨none, none, .st (some 1) (.t 6) (.t 47), none⟩,
 ⟨none, none, .st none (.t 7) (.c (.int .i64 2)), none⟩] (some [])) (
 .ret)) (
 .skip))) (
 .seq (.seq (.reg false [
 ⟨(some 48), none, .ld none (.t 9), none⟩,
 ⟨(some 49), none, .len false (.t 48), none⟩,
 ⟨(some 12), none, .mv false (.t 49), none⟩] (some [9, 10, 11, 12])) (
 .seq (.reg true [
 ⟨(some 50), none, .mv false (.t 12), none⟩,
 ⟨(some 51), none, .bin .gtr .i64 (.t 50) (.c (.int .i64 0)), none⟩,
 ⟨(some 52), none, .mv false (.t 51), none⟩,
 ⟨(some 53), some (52, true), .ld none (.t 9), none⟩,
 ⟨(some 54), some (52, true), .mv false (.t 12), none⟩,
 ⟨(some 55), some (52, true), .bin .sub .i64 (.t 54) (.c (.int .i64 1)), none⟩,
 ⟨(some 56), some (52, true), .ixs 4 (.t 53) (.t 55), none⟩,
 ⟨(some 57), some (52, true), .fld 1 (.t 56), none⟩,
 ⟨(some 58), some (52, true), .ld none (.t 57), none⟩,
 ⟨(some 59), some (52, true), .mv false (.t 11), none⟩,
 ⟨(some 60), some (52, true), .bin .eql .i64 (.t 58) (.t 59), none⟩,
 ⟨(some 61), none, .pick (.t 52) (.t 60) (.c (.bool false)), none⟩,
 ⟨(some 62), none, .mv false (.t 61), none⟩,
 ⟨(some 63), some (62, true), .ld none (.t 9), none⟩,
 ⟨(some 64), some (62, true), .mv false (.t 12), none⟩,
 ⟨(some 65), some (62, true), .bin .sub .i64 (.t 64) (.c (.int .i64 1)), none⟩,
 ⟨(some 66), some (62, true), .ixs 4 (.t 63) (.t 65), none⟩,
 ⟨(some 67), some (62, true), .fld 0 (.t 66), none⟩,
 ⟨(some 68), some (62, true), .ld none (.t 67), none⟩,
 ⟨(some 69), some (62, true), .ld none (.t 9), none⟩,
 ⟨(some 70), some (62, true), .mv false (.t 12), none⟩,
 ⟨(some 71), some (62, true), .bin .sub .i64 (.t 70) (.c (.int .i64 1)), none⟩,
 ⟨(some 72), some (62, true), .ixs 4 (.t 69) (.t 71), none⟩,
 ⟨(some 73), some (62, true), .fld 2 (.t 72), none⟩,
 ⟨(some 74), some (62, true), .ld none (.t 73), none⟩,
 ⟨(some 75), some (62, true), .bin .add .i64 (.t 68) (.t 74), none⟩,
 ⟨(some 76), some (62, true), .mv false (.t 10), none⟩,
 ⟨(some 77), some (62, true), .bin .eql .i64 (.t 75) (.t 76), none⟩,
 ⟨(some 78), none, .pick (.t 62) (.t 77) (.c (.bool false)), none⟩] (some [9, 10, 11, 12, 78])) (
 .ite (.t 78) (
 .seq (.reg false [
 ⟨(some 79), none, .ld none (.t 9), none⟩,
 ⟨(some 80), none, .mv false (.t 12), none⟩,
 ⟨(some 81), none, .bin .sub .i64 (.t 80) (.c (.int .i64 1)), none⟩,
 ⟨(some 82), none, .ixs 4 (.t 79) (.t 81), none⟩,
 ⟨(some 83), none, .fld 2 (.t 82), none⟩,
 ⟨(some 84), none, .ld none (.t 83), none⟩,
 ⟨(some 85), none, .bin .add .i64 (.t 84) (.c (.int .i64 1)), none⟩,
 ⟨(some 86), none, .ixs 4 (.t 79) (.t 81), none⟩,
 ⟨(some 87), none, .fld 2 (.t 86), none⟩,
 ⟨none, none, .st none (.t 87) (.t 85), none⟩] (some [])) (
 .exit 1)) (
 .skip)))) (
 .reg false [
 ⟨(some 88), none, .ld none (.t 9), none⟩,
 ⟨(some 89), none, .mv false (.t 10), none⟩,
 ⟨(some 90), none, .mv false (.t 11), none⟩,
 ⟨(some 91), none, .bld [(.int .i64 0), (.int .i64 0), (.int .i64 0), (.int .i64 0)] [(0, none, (.t 89)), (1, none, (.t 90)), (2, none, (.c (.int .i64 1))), (3, none, (.c (.int .i64 1)))], none⟩,
 ⟨(some 92), none, .bsl none 25 4 (some 4) [(.t 91)], none⟩,
 ⟨(some 93), none, .app 25 4 32 (.t 88) (.t 92), none⟩,
 ⟨none, none, .st none (.t 9) (.t 93), none⟩] (some [])))))))) (
.seq (.reg false [
 ⟨(some 94), none, .ld none (.t 9), none⟩,
 ⟨(some 95), none, .call true 7 [(.t 94)], none⟩,
 ⟨none, none, .st (some 1) (.t 6) (.t 95), none⟩,
 ⟨none, none, .st none (.t 7) (.c (.int .i64 0)), none⟩] (some [6, 7])) (
.ret))))))))
set_option maxRecDepth 1000000 in
theorem comp_shape_Of : (Tryd.f9.body.bind fun code => compC Tryd.prog Tryd.f9.ntmps code c_shape_Of) = some c_shape_Of.bare := by kernel_rfl
def r_shape_Of : List R := [.cell 6 (some 1), .cell 7 none]
theorem spo_shape_Of {ds : List D} {d : D} (hn : Nat.ble ds.length 96 = true) (h : run TSpC gtab 0 c_shape_Of (retK r_shape_Of (· = d)) ⟨env0 0 ds, []⟩) : TSp 9 ds d := Sp_of mixed c_shape_Of r_shape_Of (fn := Tryd.f9) (by kernel_rfl) (by kernel_rfl) comp_shape_Of (by kernel_rfl) hn h
/-- glazier/shape.Flip -/
def c_shape_Flip : C := .seq (.reg false [
 ⟨(some 4), none, .box true (.t 0), none⟩,
 ⟨(some 8), none, .alloc [(.ls 4 [])], none⟩] (some [1, 2, 3, 4, 8])) (
.seq (.seq (.reg false [
 ⟨(some 12), none, .mv false (.t 1), none⟩,
 ⟨(some 13), none, .bin .lss .i64 (.t 12) (.c (.int .i64 1)), none⟩,
 ⟨(some 14), none, .mv false (.t 13), none⟩,
 ⟨(some 15), some (14, false), .mv false (.t 1), none⟩,
 ⟨(some 16), some (14, false), .bin .gtr .i64 (.t 15) (.c (.int .i64 1048576)), none⟩,
 ⟨(some 17), none, .pick (.t 14) (.c (.bool true)) (.t 16), none⟩,
 ⟨(some 18), none, .mv false (.t 17), none⟩,
 ⟨(some 19), some (18, false), .mv false (.t 2), none⟩,
 ⟨(some 20), some (18, false), .bin .lss .i64 (.t 19) (.c (.int .i64 1)), none⟩,
 ⟨(some 21), none, .pick (.t 18) (.c (.bool true)) (.t 20), none⟩,
 ⟨(some 22), none, .mv false (.t 21), none⟩,
 ⟨(some 23), some (22, false), .mv false (.t 2), none⟩,
 ⟨(some 24), some (22, false), .bin .gtr .i64 (.t 23) (.c (.int .i64 1048576)), none⟩,
 ⟨(some 25), none, .pick (.t 22) (.c (.bool true)) (.t 24), none⟩] (some [1, 2, 3, 4, 8, 25])) (
.ite (.t 25) (
 .seq (.reg false [
 ⟨(some 26), none, .bld [(.ls 4 [])] [], none⟩,
 ⟨none, none, .st (some 1) (.t 8) (.t 26), none⟩] (some [8])) (
 .ret)) (
 .skip))) (
.seq (.reg false [
 ⟨(some 27), none, .ld (some 1) (.t 4), none⟩,
 ⟨(some 28), none, .mv false (.t 1), none⟩,
 ⟨(some 29), none, .mv false (.t 2), none⟩,
 ⟨(some 30), none, .bld [(.int .i64 0), (.int .i64 0), (.int .i64 0), (.int .i64 0)] [(2, none, (.t 28)), (3, none, (.t 29))], none⟩,
 ⟨(some 31), none, .call false 6 [(.t 27), (.t 30)], none⟩,
 ⟨(some 32), none, .call true 34 [(.t 31)], none⟩,
 ⟨(some 9), none, .mv false (.t 32), none⟩] (some [1, 2, 3, 8, 9])) (
.seq (.seq (.reg false [
 ⟨(some 33), none, .mv false (.t 9), none⟩,
 ⟨(some 34), none, .len false (.t 33), none⟩,
 ⟨(some 35), none, .mv false (.c (.int .i64 0)), none⟩] (some [1, 2, 3, 8, 9, 33, 34, 35])) (
.blk 0 (
 .loop (
 .seq (.reg false [
 ⟨(some 36), none, .bin .lss .i64 (.t 35) (.t 34), none⟩] (some [1, 2, 3, 8, 9, 33, 34, 35, 36])) (
 .seq (.ite (.t 36) (
 .skip) (
 .exit 0)) (
 .seq (.blk 1 (
 .seq (.reg false [
 ⟨(some 37), none, .mv false (.t 35), none⟩,
 ⟨(some 38), none, .ixs 4 (.t 33) (.t 35), none⟩,
 ⟨(some 39), none, .ld (some 4) (.t 38), none⟩,
 ⟨(some 11), none, .alloc [(.int .i64 0), (.int .i64 0), (.int .i64 0), (.int .i64 0)], none⟩,
 ⟨(some 10), none, .mv false (.t 37), none⟩,
 ⟨none, none, .st (some 4) (.t 11) (.t 39), none⟩] (some [1, 2, 3, 8, 9, 10, 11, 33, 34, 35])) (
 .seq (.reg false [
 ⟨(some 40), none, .mv false (.t 3), none⟩] (some [1, 2, 3, 8, 9, 10, 11, 33, 34, 35, 40])) (
 .ite (.t 40) (
 .reg false [
 ⟨(some 41), none, .mv false (.t 9), none⟩,
 ⟨(some 42), none, .mv false (.t 10), none⟩,
 ⟨(some 43), none, .mv false (.t 1), none⟩,
 ⟨(some 44), none, .fld 0 (.t 11), none⟩,
 ⟨(some 45), none, .ld none (.t 44), none⟩,
 ⟨(some 46), none, .bin .sub .i64 (.t 43) (.t 45), none⟩,
 ⟨(some 47), none, .fld 2 (.t 11), none⟩,
 ⟨(some 48), none, .ld none (.t 47), none⟩,
 ⟨(some 49), none, .bin .sub .i64 (.t 46) (.t 48), none⟩,
 ⟨(some 50), none, .ixs 4 (.t 41) (.t 42), none⟩,
 ⟨(some 51), none, .fld 0 (.t 50), none⟩,
 ⟨none, none, .st none (.t 51) (.t 49), none⟩] (some [1, 2, 3, 8, 9, 33, 34, 35])) (
 .reg false [
 ⟨(some 52), none, .mv false (.t 9), none⟩,
 ⟨(some 53), none, .mv false (.t 10), none⟩,
 ⟨(some 54), none, .mv false (.t 2), none⟩,
 ⟨(some 55), none, .fld 1 (.t 11), none⟩,
 ⟨(some 56), none, .ld none (.t 55), none⟩,
 ⟨(some 57), none, .bin .sub .i64 (.t 54) (.t 56), none⟩,
 ⟨(some 58), none, .fld 3 (.t 11), none⟩,
 ⟨(some 59), none, .ld none (.t 58), none⟩,
 ⟨(some 60), none, .bin .sub .i64 (.t 57) (.t 59), none⟩,
 ⟨(some 61), none, .ixs 4 (.t 52) (.t 53), none⟩,
 ⟨(some 62), none, .fld 1 (.t 61), none⟩,
 ⟨none, none, .st none (.t 62) (.t 60), none⟩] (some [1, 2, 3, 8, 9, 33, 34, 35])))))) (
 .reg false [
 ⟨(some 63), none, .bin .add .i64 (.t 35) (.c (.int .i64 1)), none⟩,
 ⟨(some 35), none, .mv false (.t 63), none⟩] (some [1, 2, 3, 8, 9, 33, 34, 35])))))))) (
.seq (.reg false [
 ⟨(some 64), none, .mv false (.t 9), none⟩,
 ⟨(some 65), none, .call true 7 [(.t 64)], none⟩,
 ⟨none, none, .st (some 1) (.t 8) (.t 65), none⟩] (some [8])) (
.ret)))))
set_option maxRecDepth 1000000 in
theorem comp_shape_Flip : (Tryd.f10.body.bind fun code => compC Tryd.prog Tryd.f10.ntmps code c_shape_Flip) = some c_shape_Flip.bare := by kernel_rfl
def r_shape_Flip : List R := [.cell 8 (some 1)]
theorem spo_shape_Flip {ds : List D} {d : D} (hn : Nat.ble ds.length 66 = true) (h : run TSpC gtab 0 c_shape_Flip (retK r_shape_Flip (· = d)) ⟨env0 0 ds, []⟩) : TSp 10 ds d := Sp_of mixed c_shape_Flip r_shape_Flip (fn := Tryd.f10) (by kernel_rfl) (by kernel_rfl) comp_shape_Flip (by kernel_rfl) hn h
/-- glazier/shape.Grow -/
def c_shape_Grow : C := .seq (.reg false [
 ⟨(some 2), none, .box true (.t 0), none⟩,
 ⟨(some 4), none, .alloc [(.ls 4 [])], none⟩,
 ⟨(some 5), none, .mv false (.c (.int .i64 0)), none⟩] (some [1, 2, 4])) (
.seq (.seq (.reg false [
 ⟨(some 8), none, .mv false (.t 1), none⟩,
 ⟨(some 9), none, .bin .lss .i64 (.t 8) (.c (.int .i64 (-128))), none⟩,
 ⟨(some 10), none, .mv false (.t 9), none⟩,
 ⟨(some 11), some (10, false), .mv false (.t 1), none⟩,
 ⟨(some 12), some (10, false), .bin .gtr .i64 (.t 11) (.c (.int .i64 128)), none⟩,
 ⟨(some 13), none, .pick (.t 10) (.c (.bool true)) (.t 12), none⟩] (some [1, 2, 4, 13])) (
.ite (.t 13) (
 .seq (.reg false [
 ⟨(some 14), none, .bld [(.ls 4 [])] [], none⟩,
 ⟨none, none, .st (some 1) (.t 4) (.t 14), none⟩,
 ⟨(some 5), none, .mv false (.c (.int .i64 1)), none⟩] (some [4, 5])) (
 .ret)) (
 .skip))) (
.seq (.seq (.reg false [
 ⟨(some 15), none, .mv false (.t 1), none⟩,
 ⟨(some 16), none, .bin .leq .i64 (.t 15) (.c (.int .i64 0)), none⟩] (some [1, 2, 4, 16])) (
.ite (.t 16) (
 .seq (.reg false [
 ⟨(some 17), none, .ld (some 1) (.t 2), none⟩,
 ⟨(some 18), none, .mv false (.t 1), none⟩,
 ⟨(some 19), none, .neg .i64 (.t 18), none⟩,
 ⟨(some 20), none, .call false 37 [(.t 17), (.t 19)], none⟩,
 ⟨(some 21), none, .mv false (.t 1), none⟩,
 ⟨(some 22), none, .neg .i64 (.t 21), none⟩,
 ⟨(some 23), none, .call false 36 [(.t 20), (.t 22)], none⟩,
 ⟨none, none, .st (some 1) (.t 4) (.t 23), none⟩,
 ⟨(some 5), none, .mv false (.c (.int .i64 0)), none⟩] (some [4, 5])) (
 .ret)) (
 .skip))) (
.seq (.seq (.reg false [
 ⟨(some 24), none, .ld (some 1) (.t 2), none⟩,
 ⟨(some 25), none, .call false 39 [(.t 24)], none⟩,
 ⟨(some 26), none, .mv false (.t 1), none⟩,
 ⟨(some 27), none, .call false 38 [(.t 25), (.t 26)], none⟩,
 ⟨(some 28), none, .bsl none 25 4 (some 4) [(.t 27)], none⟩,
 ⟨(some 29), none, .call true 7 [(.t 28)], none⟩,
 ⟨(some 30), none, .call false 40 [(.t 29)], none⟩] (some [1, 2, 4, 30])) (
.ite (.t 30) (
 .seq (.reg false [
 ⟨(some 31), none, .bld [(.ls 4 [])] [], none⟩,
 ⟨none, none, .st (some 1) (.t 4) (.t 31), none⟩,
 ⟨(some 5), none, .mv false (.c (.int .i64 17)), none⟩] (some [4, 5])) (
 .ret)) (
 .skip))) (
.seq (.reg false [
 ⟨(some 32), none, .ld (some 1) (.t 2), none⟩,
 ⟨(some 33), none, .call true 34 [(.t 32)], none⟩,
 ⟨(some 6), none, .mv false (.t 33), none⟩] (some [1, 4, 6])) (
.seq (.seq (.reg false [
 ⟨(some 34), none, .mv false (.t 6), none⟩,
 ⟨(some 35), none, .len false (.t 34), none⟩,
 ⟨(some 36), none, .mv false (.c (.int .i64 0)), none⟩] (some [1, 4, 6, 35, 36])) (
.blk 0 (
 .loop (
 .seq (.reg false [
 ⟨(some 37), none, .bin .lss .i64 (.t 36) (.t 35), none⟩] (some [1, 4, 6, 35, 36, 37])) (
 .seq (.ite (.t 37) (
 .skip) (
 .exit 0)) (
 .seq (.blk 1 (
 .seq (.reg false [
 ⟨(some 38), none, .mv false (.t 36), none⟩,
 ⟨(some 7), none, .mv false (.t 38), none⟩] (some [1, 4, 6, 7, 35, 36])) (
 .reg false [
 ⟨(some 39), none, .mv false (.t 6), none⟩,
 ⟨(some 40), none, .mv false (.t 7), none⟩,
 ⟨(some 41), none, .mv false (.t 6), none⟩,
 ⟨(some 42), none, .mv false (.t 7), none⟩,
 ⟨(some 43), none, .ixs 4 (.t 41) (.t 42), none⟩,
 ⟨(some 44), none, .ld (some 4) (.t 43), none⟩,
 ⟨(some 45), none, .mv false (.t 1), none⟩,
 ⟨(some 46), none, .call false 38 [(.t 44), (.t 45)], none⟩,
 ⟨(some 47), none, .ixs 4 (.t 39) (.t 40), none⟩,
 ⟨none, none, .st (some 4) (.t 47) (.t 46), none⟩] (some [1, 4, 6, 35, 36])))) (
 .reg false [
 ⟨(some 48), none, .bin .add .i64 (.t 36) (.c (.int .i64 1)), none⟩,
 ⟨(some 36), none, .mv false (.t 48), none⟩] (some [1, 4, 6, 35, 36])))))))) (
.seq (.reg false [
 ⟨(some 49), none, .mv false (.t 6), none⟩,
 ⟨(some 50), none, .call true 7 [(.t 49)], none⟩,
 ⟨none, none, .st (some 1) (.t 4) (.t 50), none⟩,
 ⟨(some 5), none, .mv false (.c (.int .i64 0)), none⟩] (some [4, 5])) (
.ret)))))))
set_option maxRecDepth 1000000 in
theorem comp_shape_Grow : (Tryd.f11.body.bind fun code => compC Tryd.prog Tryd.f11.ntmps code c_shape_Grow) = some c_shape_Grow.bare := by kernel_rfl
def r_shape_Grow : List R := [.cell 4 (some 1), .t 5]
theorem spo_shape_Grow {ds : List D} {d : D} (hn : Nat.ble ds.length 51 = true) (h : run TSpC gtab 0 c_shape_Grow (retK r_shape_Grow (· = d)) ⟨env0 0 ds, []⟩) : TSp 11 ds d := Sp_of mixed c_shape_Grow r_shape_Grow (fn := Tryd.f11) (by kernel_rfl) (by kernel_rfl) comp_shape_Grow (by kernel_rfl) hn h
/-- glazier/band.Same -/
def c_band_Same : C := .seq (.reg false [
 ⟨(some 2), none, .box true (.t 0), none⟩,
 ⟨(some 3), none, .box true (.t 1), none⟩,
 ⟨(some 4), none, .mv false (.c (.bool false)), none⟩] (some [2, 3])) (
.seq (.reg false [
 ⟨(some 5), none, .fld 0 (.t 2), none⟩,
 ⟨(some 6), none, .ld none (.t 5), none⟩,
 ⟨(some 7), none, .fld 0 (.t 3), none⟩,
 ⟨(some 8), none, .ld none (.t 7), none⟩,
 ⟨(some 9), none, .call false 41 [(.t 6), (.t 8)], none⟩,
 ⟨(some 4), none, .mv false (.t 9), none⟩] (some [4])) (
.ret))
set_option maxRecDepth 1000000 in
theorem comp_band_Same : (Tryd.f12.body.bind fun code => compC Tryd.prog Tryd.f12.ntmps code c_band_Same) = some c_band_Same.bare := by kernel_rfl
def r_band_Same : List R := [.t 4]
theorem spo_band_Same {ds : List D} {d : D} (hn : Nat.ble ds.length 10 = true) (h : run TSpC gtab 0 c_band_Same (retK r_band_Same (· = d)) ⟨env0 0 ds, []⟩) : TSp 12 ds d := Sp_of mixed c_band_Same r_band_Same (fn := Tryd.f12) (by kernel_rfl) (by kernel_rfl) comp_band_Same (by kernel_rfl) hn h
/-- glazier/region.Inside -/
def c_region_Inside : C := .seq (.reg false [
 ⟨(some 2), none, .box true (.t 0), none⟩,
 ⟨(some 3), none, .box true (.t 1), none⟩,
 ⟨(some 4), none, .mv false (.c (.bool false)), none⟩] (some [2, 3])) (
.seq (.reg false [
 ⟨(some 5), none, .ld (some 1) (.t 2), none⟩,
 ⟨(some 6), none, .ld (some 1) (.t 3), none⟩,
 ⟨(some 7), none, .call false 14 [(.t 5), (.t 6)], none⟩,
 ⟨(some 8), none, .call false 40 [(.t 7)], none⟩,
 ⟨(some 4), none, .mv false (.t 8), none⟩] (some [4])) (
.ret))
set_option maxRecDepth 1000000 in
theorem comp_region_Inside : (Tryd.f13.body.bind fun code => compC Tryd.prog Tryd.f13.ntmps code c_region_Inside) = some c_region_Inside.bare := by kernel_rfl
def r_region_Inside : List R := [.t 4]
theorem spo_region_Inside {ds : List D} {d : D} (hn : Nat.ble ds.length 9 = true) (h : run TSpC gtab 0 c_region_Inside (retK r_region_Inside (· = d)) ⟨env0 0 ds, []⟩) : TSp 13 ds d := Sp_of mixed c_region_Inside r_region_Inside (fn := Tryd.f13) (by kernel_rfl) (by kernel_rfl) comp_region_Inside (by kernel_rfl) hn h
/-- glazier/region.Minus -/
def c_region_Minus : C := .seq (.reg false [
 ⟨(some 2), none, .box true (.t 0), none⟩,
 ⟨(some 3), none, .box true (.t 1), none⟩,
 ⟨(some 4), none, .alloc [(.ls 4 [])], none⟩] (some [2, 3, 4])) (
.seq (.reg false [
 ⟨(some 5), none, .bld [.nil] [(0, none, (.c (.fn 42 [])))], none⟩,
 ⟨(some 6), none, .ld (some 1) (.t 2), none⟩,
 ⟨(some 7), none, .ld (some 1) (.t 3), none⟩,
 ⟨(some 8), none, .call false 43 [(.t 5), (.t 6), (.t 7)], none⟩,
 ⟨none, none, .st (some 1) (.t 4) (.t 8), none⟩] (some [4])) (
.ret))
set_option maxRecDepth 1000000 in
theorem comp_region_Minus : (Tryd.f14.body.bind fun code => compC Tryd.prog Tryd.f14.ntmps code c_region_Minus) = some c_region_Minus.bare := by kernel_rfl
def r_region_Minus : List R := [.cell 4 (some 1)]
theorem spo_region_Minus {ds : List D} {d : D} (hn : Nat.ble ds.length 9 = true) (h : run TSpC gtab 0 c_region_Minus (retK r_region_Minus (· = d)) ⟨env0 0 ds, []⟩) : TSp 14 ds d := Sp_of mixed c_region_Minus r_region_Minus (fn := Tryd.f14) (by kernel_rfl) (by kernel_rfl) comp_region_Minus (by kernel_rfl) hn h
/-- glazier/shape.Edge -/
def c_shape_Edge : C := .seq (.reg false [
 ⟨(some 1), none, .box true (.t 0), none⟩,
 ⟨(some 2), none, .alloc [(.ls 4 [])], none⟩] (some [1, 2])) (
.seq (.reg true [
 ⟨(some 3), none, .ld (some 1) (.t 1), none⟩,
 ⟨(some 4), none, .ld (some 1) (.t 1), none⟩,
 ⟨(some 5), none, .call false 37 [(.t 4), (.c (.int .i64 1))], none⟩,
 ⟨(some 6), none, .ld (some 1) (.t 1), none⟩,
 ⟨(some 7), none, .call false 36 [(.t 6), (.c (.int .i64 1))], none⟩,
 ⟨(some 8), none, .call false 20 [(.t 5), (.t 7)], none⟩,
 ⟨(some 9), none, .call false 14 [(.t 3), (.t 8)], none⟩,
 ⟨none, none, .st (some 1) (.t 2) (.t 9), none⟩] (some [2])) (
.ret))
set_option maxRecDepth 1000000 in
theorem comp_shape_Edge : (Tryd.f15.body.bind fun code => compC Tryd.prog Tryd.f15.ntmps code c_shape_Edge) = some c_shape_Edge.bare := by kernel_rfl
def r_shape_Edge : List R := [.cell 2 (some 1)]
theorem spo_shape_Edge {ds : List D} {d : D} (hn : Nat.ble ds.length 10 = true) (h : run TSpC gtab 0 c_shape_Edge (retK r_shape_Edge (· = d)) ⟨env0 0 ds, []⟩) : TSp 15 ds d := Sp_of mixed c_shape_Edge r_shape_Edge (fn := Tryd.f15) (by kernel_rfl) (by kernel_rfl) comp_shape_Edge (by kernel_rfl) hn h
/-- (glazier/band.Region).Has -/
def c_band_Region_Has : C := .seq (.reg false [
 ⟨(some 3), none, .box true (.t 0), none⟩,
 ⟨(some 6), none, .mv false (.c (.bool false)), none⟩] (some [1, 2, 3])) (
.seq (.reg false [
 ⟨(some 7), none, .mv false (.c (.bool false)), none⟩] (some [1, 2, 3, 7])) (
.seq (.skip) (
.seq (.seq (.reg false [
 ⟨(some 10), none, .fld 0 (.t 3), none⟩,
 ⟨(some 11), none, .ld none (.t 10), none⟩,
 ⟨(some 12), none, .len false (.t 11), none⟩,
 ⟨(some 13), none, .mv false (.c (.int .i64 0)), none⟩] (some [1, 2, 7, 11, 12, 13])) (
.blk 0 (
 .loop (
 .seq (.reg false [
 ⟨(some 14), none, .bin .lss .i64 (.t 13) (.t 12), none⟩] (some [1, 2, 7, 11, 12, 13, 14])) (
 .seq (.ite (.t 14) (
 .skip) (
 .exit 0)) (
 .seq (.blk 1 (
 .seq (.reg false [
 ⟨(some 15), none, .ixs 4 (.t 11) (.t 13), none⟩,
 ⟨(some 16), none, .ld (some 4) (.t 15), none⟩,
 ⟨(some 9), none, .alloc [(.int .i64 0), (.int .i64 0), (.int .i64 0), (.int .i64 0)], none⟩,
 ⟨none, none, .st (some 4) (.t 9) (.t 16), none⟩] (some [1, 2, 7, 9, 11, 12, 13])) (
 .blk 2 (
 .seq (.reg false [
 ⟨(some 18), none, .mv false (.t 2), none⟩,
 ⟨(some 19), none, .fld 1 (.t 9), none⟩,
 ⟨(some 20), none, .ld none (.t 19), none⟩,
 ⟨(some 21), none, .bin .lss .i64 (.t 18) (.t 20), none⟩,
 ⟨(some 17), none, .mv false (.t 21), none⟩] (some [1, 2, 7, 9, 11, 12, 13, 17])) (
 .ite (.t 17) (
 .exit 0) (
 .seq (.reg false [
 ⟨(some 23), none, .mv false (.t 2), none⟩,
 ⟨(some 24), none, .fld 1 (.t 9), none⟩,
 ⟨(some 25), none, .ld none (.t 24), none⟩,
 ⟨(some 26), none, .fld 3 (.t 9), none⟩,
 ⟨(some 27), none, .ld none (.t 26), none⟩,
 ⟨(some 28), none, .bin .add .i64 (.t 25) (.t 27), none⟩,
 ⟨(some 29), none, .bin .geq .i64 (.t 23) (.t 28), none⟩,
 ⟨(some 30), none, .mv false (.t 29), none⟩,
 ⟨(some 31), some (30, false), .mv false (.t 1), none⟩,
 ⟨(some 32), some (30, false), .fld 0 (.t 9), none⟩,
 ⟨(some 33), some (30, false), .ld none (.t 32), none⟩,
 ⟨(some 34), some (30, false), .fld 2 (.t 9), none⟩,
 ⟨(some 35), some (30, false), .ld none (.t 34), none⟩,
 ⟨(some 36), some (30, false), .bin .add .i64 (.t 33) (.t 35), none⟩,
 ⟨(some 37), some (30, false), .bin .geq .i64 (.t 31) (.t 36), none⟩,
 ⟨(some 38), none, .pick (.t 30) (.c (.bool true)) (.t 37), none⟩,
 ⟨(some 22), none, .mv false (.t 38), none⟩] (some [1, 2, 7, 9, 11, 12, 13, 22])) (
 .ite (.t 22) (
 .exit 1) (
 .seq (.reg false [
 ⟨(some 40), none, .mv false (.t 1), none⟩,
 ⟨(some 41), none, .fld 0 (.t 9), none⟩,
 ⟨(some 42), none, .ld none (.t 41), none⟩,
 ⟨(some 43), none, .bin .geq .i64 (.t 40) (.t 42), none⟩,
 ⟨(some 39), none, .mv false (.t 43), none⟩] (some [1, 2, 7, 11, 12, 13, 39])) (
 .ite (.t 39) (
 .seq (.reg false [
 ⟨(some 7), none, .mv false (.c (.bool true)), none⟩] (some [7])) (
 .exit 0)) (
 .skip)))))))))) (
 .reg false [
 ⟨(some 44), none, .bin .add .i64 (.t 13) (.c (.int .i64 1)), none⟩,
 ⟨(some 13), none, .mv false (.t 44), none⟩] (some [1, 2, 7, 11, 12, 13])))))))) (
.seq (.reg false [
 ⟨(some 45), none, .mv false (.t 7), none⟩,
 ⟨(some 6), none, .mv false (.t 45), none⟩] (some [6])) (
.ret)))))
set_option maxRecDepth 1000000 in
theorem comp_band_Region_Has : (Tryd.f16.body.bind fun code => compC Tryd.prog Tryd.f16.ntmps code c_band_Region_Has) = some c_band_Region_Has.bare := by kernel_rfl
def r_band_Region_Has : List R := [.t 6]
theorem spo_band_Region_Has {ds : List D} {d : D} (hn : Nat.ble ds.length 46 = true) (h : run TSpC gtab 0 c_band_Region_Has (retK r_band_Region_Has (· = d)) ⟨env0 0 ds, []⟩) : TSp 16 ds d := Sp_of mixed c_band_Region_Has r_band_Region_Has (fn := Tryd.f16) (by kernel_rfl) (by kernel_rfl) comp_band_Region_Has (by kernel_rfl) hn h
/-- (glazier/band.Region).Area -/
def c_band_Region_Area : C := .seq (.reg false [
 ⟨(some 1), none, .box true (.t 0), none⟩,
 ⟨(some 2), none, .mv false (.c (.int .i64 0)), none⟩] (some [1])) (
.seq (.reg false [
 ⟨(some 3), none, .mv false (.c (.int .i64 0)), none⟩] (some [1, 3])) (
.seq (.seq (.reg false [
 ⟨(some 6), none, .fld 0 (.t 1), none⟩,
 ⟨(some 7), none, .ld none (.t 6), none⟩,
 ⟨(some 8), none, .len false (.t 7), none⟩,
 ⟨(some 9), none, .mv false (.c (.int .i64 0)), none⟩] (some [3, 7, 8, 9])) (
.blk 0 (
 .loop (
 .seq (.reg false [
 ⟨(some 10), none, .bin .lss .i64 (.t 9) (.t 8), none⟩] (some [3, 7, 8, 9, 10])) (
 .seq (.ite (.t 10) (
 .skip) (
 .exit 0)) (
 .seq (.blk 1 (
 .seq (.reg false [
 ⟨(some 11), none, .ixs 4 (.t 7) (.t 9), none⟩,
 ⟨(some 12), none, .ld (some 4) (.t 11), none⟩,
 ⟨(some 5), none, .alloc [(.int .i64 0), (.int .i64 0), (.int .i64 0), (.int .i64 0)], none⟩,
 ⟨none, none, .st (some 4) (.t 5) (.t 12), none⟩] (some [3, 5, 7, 8, 9])) (
 .reg false [
 ⟨(some 13), none, .mv false (.t 3), none⟩,
 ⟨(some 14), none, .fld 2 (.t 5), none⟩,
 ⟨(some 15), none, .ld none (.t 14), none⟩,
 ⟨(some 16), none, .fld 3 (.t 5), none⟩,
 ⟨(some 17), none, .ld none (.t 16), none⟩,
 ⟨(some 18), none, .bin .mul .i64 (.t 15) (.t 17), none⟩,
 ⟨(some 19), none, .bin .add .i64 (.t 13) (.t 18), none⟩,
 ⟨(some 3), none, .mv false (.t 19), none⟩] (some [3, 7, 8, 9])))) (
 .reg false [
 ⟨(some 20), none, .bin .add .i64 (.t 9) (.c (.int .i64 1)), none⟩,
 ⟨(some 9), none, .mv false (.t 20), none⟩] (some [3, 7, 8, 9])))))))) (
.seq (.reg false [
 ⟨(some 21), none, .mv false (.t 3), none⟩,
 ⟨(some 2), none, .mv false (.t 21), none⟩] (some [2])) (
.ret))))
set_option maxRecDepth 1000000 in
theorem comp_band_Region_Area : (Tryd.f17.body.bind fun code => compC Tryd.prog Tryd.f17.ntmps code c_band_Region_Area) = some c_band_Region_Area.bare := by kernel_rfl
def r_band_Region_Area : List R := [.t 2]
theorem spo_band_Region_Area {ds : List D} {d : D} (hn : Nat.ble ds.length 22 = true) (h : run TSpC gtab 0 c_band_Region_Area (retK r_band_Region_Area (· = d)) ⟨env0 0 ds, []⟩) : TSp 17 ds d := Sp_of mixed c_band_Region_Area r_band_Region_Area (fn := Tryd.f17) (by kernel_rfl) (by kernel_rfl) comp_band_Region_Area (by kernel_rfl) hn h
/-- glazier/gravity.Kept -/
def c_gravity_Kept : C := .seq (.reg false [
 ⟨(some 4), none, .box true (.t 1), none⟩,
 ⟨(some 5), none, .box true (.t 2), none⟩,
 ⟨(some 6), none, .alloc [(.int .i64 0), (.int .i64 0)], none⟩,
 ⟨(some 7), none, .alloc [(.int .i64 0), (.int .i64 0), (.int .i64 0), (.int .i64 0)], none⟩,
 ⟨(some 8), none, .mv false (.c (.bool false)), none⟩] (some [0, 4, 5, 6, 7])) (
.seq (.reg false [
 ⟨(some 16), none, .mv false (.t 0), none⟩,
 ⟨(some 17), none, .ld (some 4) (.t 4), none⟩,
 ⟨(some 18), none, .ld (some 4) (.t 5), none⟩,
 ⟨(some 19), none, .call false 44 [(.t 16), (.t 17), (.t 18)], none⟩,
 ⟨(some 15), none, .mv false (.t 19), none⟩,
 ⟨(some 20), none, .ext (.t 15) 0, none⟩,
 ⟨(some 21), none, .ext (.t 15) 1, none⟩,
 ⟨(some 9), none, .alloc [(.int .i64 0), (.int .i64 0)], none⟩,
 ⟨none, none, .st (some 2) (.t 9) (.t 20), none⟩,
 ⟨(some 10), none, .mv false (.t 21), none⟩] (some [4, 5, 6, 7, 9, 10])) (
.seq (.seq (.reg false [
 ⟨(some 22), none, .mv false (.t 10), none⟩,
 ⟨(some 23), none, .not (.t 22), none⟩] (some [4, 5, 6, 7, 9, 23])) (
.ite (.t 23) (
 .seq (.reg false [
 ⟨(some 24), none, .bld [(.int .i64 0), (.int .i64 0)] [], none⟩,
 ⟨(some 25), none, .bld [(.int .i64 0), (.int .i64 0), (.int .i64 0), (.int .i64 0)] [], none⟩,
 ⟨none, none, .st (some 2) (.t 6) (.t 24), none⟩,
 ⟨none, none, .st (some 4) (.t 7) (.t 25), none⟩,
 ⟨(some 8), none, .mv false (.c (.bool false)), none⟩] (some [6, 7, 8])) (
 .ret)) (
 .skip))) (
.seq (.reg false [
 ⟨(some 27), none, .fld 2 (.t 4), none⟩,
 ⟨(some 28), none, .ld none (.t 27), none⟩,
 ⟨(some 29), none, .fld 2 (.t 5), none⟩,
 ⟨(some 30), none, .ld none (.t 29), none⟩,
 ⟨(some 31), none, .fld 0 (.t 9), none⟩,
 ⟨(some 32), none, .ld none (.t 31), none⟩,
 ⟨(some 33), none, .call false 45 [(.t 28), (.t 30), (.t 32)], none⟩,
 ⟨(some 26), none, .mv false (.t 33), none⟩,
 ⟨(some 34), none, .ext (.t 26) 0, none⟩,
 ⟨(some 35), none, .ext (.t 26) 1, none⟩,
 ⟨(some 11), none, .mv false (.t 34), none⟩,
 ⟨(some 12), none, .mv false (.t 35), none⟩] (some [4, 5, 6, 7, 9, 11, 12])) (
.seq (.reg false [
 ⟨(some 37), none, .fld 3 (.t 4), none⟩,
 ⟨(some 38), none, .ld none (.t 37), none⟩,
 ⟨(some 39), none, .fld 3 (.t 5), none⟩,
 ⟨(some 40), none, .ld none (.t 39), none⟩,
 ⟨(some 41), none, .fld 1 (.t 9), none⟩,
 ⟨(some 42), none, .ld none (.t 41), none⟩,
 ⟨(some 43), none, .call false 45 [(.t 38), (.t 40), (.t 42)], none⟩,
 ⟨(some 36), none, .mv false (.t 43), none⟩,
 ⟨(some 44), none, .ext (.t 36) 0, none⟩,
 ⟨(some 45), none, .ext (.t 36) 1, none⟩,
 ⟨(some 13), none, .mv false (.t 44), none⟩,
 ⟨(some 14), none, .mv false (.t 45), none⟩] (some [6, 7, 9, 11, 12, 13, 14])) (
.seq (.seq (.reg false [
 ⟨(some 46), none, .mv false (.t 12), none⟩,
 ⟨(some 47), none, .bin .lss .i64 (.t 46) (.c (.int .i64 1)), none⟩,
 ⟨(some 48), none, .mv false (.t 47), none⟩,
 ⟨(some 49), some (48, false), .mv false (.t 14), none⟩,
 ⟨(some 50), some (48, false), .bin .lss .i64 (.t 49) (.c (.int .i64 1)), none⟩,
 ⟨(some 51), none, .pick (.t 48) (.c (.bool true)) (.t 50), none⟩] (some [6, 7, 9, 11, 12, 13, 14, 51])) (
.ite (.t 51) (
 .seq (.reg false [
 ⟨(some 52), none, .ld (some 2) (.t 9), none⟩,
 ⟨(some 53), none, .bld [(.int .i64 0), (.int .i64 0), (.int .i64 0), (.int .i64 0)] [], none⟩,
 ⟨none, none, .st (some 2) (.t 6) (.t 52), none⟩,
 ⟨none, none, .st (some 4) (.t 7) (.t 53), none⟩,
 ⟨(some 8), none, .mv false (.c (.bool true)), none⟩] (some [6, 7, 8])) (
 .ret)) (
 .skip))) (
.seq (.reg false [
 ⟨(some 54), none, .ld (some 2) (.t 9), none⟩,
 ⟨(some 55), none, .mv false (.t 11), none⟩,
 ⟨(some 56), none, .mv false (.t 13), none⟩,
 ⟨(some 57), none, .mv false (.t 12), none⟩,
 ⟨(some 58), none, .mv false (.t 14), none⟩,
 ⟨(some 59), none, .bld [(.int .i64 0), (.int .i64 0), (.int .i64 0), (.int .i64 0)] [(0, none, (.t 55)), (1, none, (.t 56)), (2, none, (.t 57)), (3, none, (.t 58))], none⟩,
 ⟨none, none, .st (some 2) (.t 6) (.t 54), none⟩,
 ⟨none, none, .st (some 4) (.t 7) (.t 59), none⟩,
 ⟨(some 8), none, .mv false (.c (.bool true)), none⟩] (some [6, 7, 8])) (
.ret)))))))
set_option maxRecDepth 1000000 in
theorem comp_gravity_Kept : (Tryd.f18.body.bind fun code => compC Tryd.prog Tryd.f18.ntmps code c_gravity_Kept) = some c_gravity_Kept.bare := by kernel_rfl
def r_gravity_Kept : List R := [.cell 6 (some 2), .cell 7 (some 4), .t 8]
theorem spo_gravity_Kept {ds : List D} {d : D} (hn : Nat.ble ds.length 60 = true) (h : run TSpC gtab 0 c_gravity_Kept (retK r_gravity_Kept (· = d)) ⟨env0 0 ds, []⟩) : TSp 18 ds d := Sp_of mixed c_gravity_Kept r_gravity_Kept (fn := Tryd.f18) (by kernel_rfl) (by kernel_rfl) comp_gravity_Kept (by kernel_rfl) hn h
/-- glazier/region.Shift -/
def c_region_Shift : C := .seq (.reg false [
 ⟨(some 3), none, .box true (.t 0), none⟩,
 ⟨(some 6), none, .alloc [(.ls 4 [])], none⟩] (some [1, 2, 3, 6])) (
.seq (.seq (.reg false [
 ⟨(some 9), none, .mv false (.t 1), none⟩,
 ⟨(some 10), none, .bin .lss .i64 (.t 9) (.c (.int .i64 (-2097152))), none⟩,
 ⟨(some 11), none, .mv false (.t 10), none⟩,
 ⟨(some 12), some (11, false), .mv false (.t 1), none⟩,
 ⟨(some 13), some (11, false), .bin .gtr .i64 (.t 12) (.c (.int .i64 2097152)), none⟩,
 ⟨(some 14), none, .pick (.t 11) (.c (.bool true)) (.t 13), none⟩,
 ⟨(some 15), none, .mv false (.t 14), none⟩,
 ⟨(some 16), some (15, false), .mv false (.t 2), none⟩,
 ⟨(some 17), some (15, false), .bin .lss .i64 (.t 16) (.c (.int .i64 (-2097152))), none⟩,
 ⟨(some 18), none, .pick (.t 15) (.c (.bool true)) (.t 17), none⟩,
 ⟨(some 19), none, .mv false (.t 18), none⟩,
 ⟨(some 20), some (19, false), .mv false (.t 2), none⟩,
 ⟨(some 21), some (19, false), .bin .gtr .i64 (.t 20) (.c (.int .i64 2097152)), none⟩,
 ⟨(some 22), none, .pick (.t 19) (.c (.bool true)) (.t 21), none⟩] (some [1, 2, 3, 6, 22])) (
.ite (.t 22) (
 .seq (.reg false [
 ⟨(some 23), none, .bld [(.ls 4 [])] [], none⟩,
 ⟨none, none, .st (some 1) (.t 6) (.t 23), none⟩] (some [6])) (
 .ret)) (
 .skip))) (
.seq (.reg false [
 ⟨(some 24), none, .ld (some 1) (.t 3), none⟩,
 ⟨(some 25), none, .call true 34 [(.t 24)], none⟩,
 ⟨(some 7), none, .mv false (.t 25), none⟩] (some [1, 2, 6, 7])) (
.seq (.seq (.reg false [
 ⟨(some 26), none, .mv false (.t 7), none⟩,
 ⟨(some 27), none, .len false (.t 26), none⟩,
 ⟨(some 28), none, .mv false (.c (.int .i64 0)), none⟩] (some [1, 2, 6, 7, 27, 28])) (
.blk 0 (
 .loop (
 .seq (.reg false [
 ⟨(some 29), none, .bin .lss .i64 (.t 28) (.t 27), none⟩] (some [1, 2, 6, 7, 27, 28, 29])) (
 .seq (.ite (.t 29) (
 .skip) (
 .exit 0)) (
 .seq (.blk 1 (
 .seq (.reg false [
 ⟨(some 30), none, .mv false (.t 28), none⟩,
 ⟨(some 8), none, .mv false (.t 30), none⟩] (some [1, 2, 6, 7, 8, 27, 28])) (
 .seq (.reg true [
 ⟨(some 32), none, .mv false (.t 7), none⟩,
 ⟨(some 33), none, .mv false (.t 8), none⟩,
 ⟨(some 34), none, .mv false (.t 7), none⟩,
 ⟨(some 35), none, .mv false (.t 8), none⟩,
 ⟨(some 36), none, .mv false (.t 7), none⟩,
 ⟨(some 37), none, .mv false (.t 8), none⟩,
 ⟨(some 38), none, .ixs 4 (.t 36) (.t 37), none⟩,
 ⟨(some 39), none, .fld 0 (.t 38), none⟩,
 ⟨(some 40), none, .ld none (.t 39), none⟩,
 ⟨(some 41), none, .mv false (.t 7), none⟩,
 ⟨(some 42), none, .mv false (.t 8), none⟩,
 ⟨(some 43), none, .ixs 4 (.t 41) (.t 42), none⟩,
 ⟨(some 44), none, .fld 2 (.t 43), none⟩,
 ⟨(some 45), none, .ld none (.t 44), none⟩,
 ⟨(some 46), none, .mv false (.t 1), none⟩,
 ⟨(some 47), none, .call false 46 [(.t 40), (.t 45), (.t 46)], none⟩,
 ⟨(some 31), none, .mv false (.t 47), none⟩,
 ⟨(some 48), none, .ext (.t 31) 0, none⟩,
 ⟨(some 49), none, .ext (.t 31) 1, none⟩,
 ⟨(some 50), none, .ixs 4 (.t 32) (.t 33), none⟩,
 ⟨(some 51), none, .fld 0 (.t 50), none⟩,
 ⟨none, none, .st none (.t 51) (.t 48), none⟩,
 ⟨(some 52), none, .ixs 4 (.t 34) (.t 35), none⟩,
 ⟨(some 53), none, .fld 2 (.t 52), none⟩,
 ⟨none, none, .st none (.t 53) (.t 49), none⟩] (some [1, 2, 6, 7, 8, 27, 28])) (
 .reg true [
 ⟨(some 55), none, .mv false (.t 7), none⟩,
 ⟨(some 56), none, .mv false (.t 8), none⟩,
 ⟨(some 57), none, .mv false (.t 7), none⟩,
 ⟨(some 58), none, .mv false (.t 8), none⟩,
 ⟨(some 59), none, .mv false (.t 7), none⟩,
 ⟨(some 60), none, .mv false (.t 8), none⟩,
 ⟨(some 61), none, .ixs 4 (.t 59) (.t 60), none⟩,
 ⟨(some 62), none, .fld 1 (.t 61), none⟩,
 ⟨(some 63), none, .ld none (.t 62), none⟩,
 ⟨(some 64), none, .mv false (.t 7), none⟩,
 ⟨(some 65), none, .mv false (.t 8), none⟩,
 ⟨(some 66), none, .ixs 4 (.t 64) (.t 65), none⟩,
 ⟨(some 67), none, .fld 3 (.t 66), none⟩,
 ⟨(some 68), none, .ld none (.t 67), none⟩,
 ⟨(some 69), none, .mv false (.t 2), none⟩,
 ⟨(some 70), none, .call false 46 [(.t 63), (.t 68), (.t 69)], none⟩,
 ⟨(some 54), none, .mv false (.t 70), none⟩,
 ⟨(some 71), none, .ext (.t 54) 0, none⟩,
 ⟨(some 72), none, .ext (.t 54) 1, none⟩,
 ⟨(some 73), none, .ixs 4 (.t 55) (.t 56), none⟩,
 ⟨(some 74), none, .fld 1 (.t 73), none⟩,
 ⟨none, none, .st none (.t 74) (.t 71), none⟩,
 ⟨(some 75), none, .ixs 4 (.t 57) (.t 58), none⟩,
 ⟨(some 76), none, .fld 3 (.t 75), none⟩,
 ⟨none, none, .st none (.t 76) (.t 72), none⟩] (some [1, 2, 6, 7, 27, 28]))))) (
 .reg false [
 ⟨(some 77), none, .bin .add .i64 (.t 28) (.c (.int .i64 1)), none⟩,
 ⟨(some 28), none, .mv false (.t 77), none⟩] (some [1, 2, 6, 7, 27, 28])))))))) (
.seq (.reg false [
 ⟨(some 78), none, .mv false (.t 7), none⟩,
 ⟨(some 79), none, .call true 7 [(.t 78)], none⟩,
 ⟨none, none, .st (some 1) (.t 6) (.t 79), none⟩] (some [6])) (
.ret)))))
set_option maxRecDepth 1000000 in
theorem comp_region_Shift : (Tryd.f19.body.bind fun code => compC Tryd.prog Tryd.f19.ntmps code c_region_Shift) = some c_region_Shift.bare := by kernel_rfl
def r_region_Shift : List R := [.cell 6 (some 1)]
theorem spo_region_Shift {ds : List D} {d : D} (hn : Nat.ble ds.length 80 = true) (h : run TSpC gtab 0 c_region_Shift (retK r_region_Shift (· = d)) ⟨env0 0 ds, []⟩) : TSp 19 ds d := Sp_of mixed c_region_Shift r_region_Shift (fn := Tryd.f19) (by kernel_rfl) (by kernel_rfl) comp_region_Shift (by kernel_rfl) hn h
/-- glazier/region.Meet -/
def c_region_Meet : C := .seq (.reg false [
 ⟨(some 2), none, .box true (.t 0), none⟩,
 ⟨(some 3), none, .box true (.t 1), none⟩,
 ⟨(some 4), none, .alloc [(.ls 4 [])], none⟩] (some [2, 3, 4])) (
.seq (.reg false [
 ⟨(some 5), none, .bld [.nil] [(0, none, (.c (.fn 47 [])))], none⟩,
 ⟨(some 6), none, .ld (some 1) (.t 2), none⟩,
 ⟨(some 7), none, .ld (some 1) (.t 3), none⟩,
 ⟨(some 8), none, .call false 43 [(.t 5), (.t 6), (.t 7)], none⟩,
 ⟨none, none, .st (some 1) (.t 4) (.t 8), none⟩] (some [4])) (
.ret))
set_option maxRecDepth 1000000 in
theorem comp_region_Meet : (Tryd.f20.body.bind fun code => compC Tryd.prog Tryd.f20.ntmps code c_region_Meet) = some c_region_Meet.bare := by kernel_rfl
def r_region_Meet : List R := [.cell 4 (some 1)]
theorem spo_region_Meet {ds : List D} {d : D} (hn : Nat.ble ds.length 9 = true) (h : run TSpC gtab 0 c_region_Meet (retK r_region_Meet (· = d)) ⟨env0 0 ds, []⟩) : TSp 20 ds d := Sp_of mixed c_region_Meet r_region_Meet (fn := Tryd.f20) (by kernel_rfl) (by kernel_rfl) comp_region_Meet (by kernel_rfl) hn h
/-- glazier/band.counts -/
def c_band_counts : C := .seq (.reg false [
 ⟨(some 1), none, .box true (.t 0), none⟩,
 ⟨(some 2), none, .mv false (.c (.bool false)), none⟩] (some [1])) (
.seq (.reg false [
 ⟨(some 3), none, .fld 0 (.t 1), none⟩,
 ⟨(some 4), none, .ld none (.t 3), none⟩,
 ⟨(some 5), none, .fld 2 (.t 1), none⟩,
 ⟨(some 6), none, .ld none (.t 5), none⟩,
 ⟨(some 7), none, .call false 48 [(.t 4), (.t 6)], none⟩,
 ⟨(some 8), none, .mv false (.t 7), none⟩,
 ⟨(some 9), some (8, true), .fld 1 (.t 1), none⟩,
 ⟨(some 10), some (8, true), .ld none (.t 9), none⟩,
 ⟨(some 11), some (8, true), .fld 3 (.t 1), none⟩,
 ⟨(some 12), some (8, true), .ld none (.t 11), none⟩,
 ⟨(some 13), some (8, true), .call false 48 [(.t 10), (.t 12)], none⟩,
 ⟨(some 14), none, .pick (.t 8) (.t 13) (.c (.bool false)), none⟩,
 ⟨(some 2), none, .mv false (.t 14), none⟩] (some [2])) (
.ret))
set_option maxRecDepth 1000000 in
theorem comp_band_counts : (Tryd.f21.body.bind fun code => compC Tryd.prog Tryd.f21.ntmps code c_band_counts) = some c_band_counts.bare := by kernel_rfl
def r_band_counts : List R := [.t 2]
theorem spo_band_counts {ds : List D} {d : D} (hn : Nat.ble ds.length 15 = true) (h : run TSpC gtab 0 c_band_counts (retK r_band_counts (· = d)) ⟨env0 0 ds, []⟩) : TSp 21 ds d := Sp_of mixed c_band_counts r_band_counts (fn := Tryd.f21) (by kernel_rfl) (by kernel_rfl) comp_band_counts (by kernel_rfl) hn h
/-- glazier/band.edges -/
def c_band_edges : C := .seq (.reg false [
 ⟨(some 2), none, .nilS 3 1, none⟩] (some [0])) (
.seq (.reg false [
 ⟨(some 6), none, .mv false (.t 0), none⟩,
 ⟨(some 7), none, .len false (.t 6), none⟩,
 ⟨(some 8), none, .bin .mul .i64 (.c (.int .i64 2)) (.t 7), none⟩,
 ⟨(some 9), none, .mks 3 1 none [(.int .i64 0)] (.c (.int .i64 0)) (.t 8), none⟩,
 ⟨(some 3), none, .mv false (.t 9), none⟩] (some [0, 3])) (
.seq (.seq (.reg false [
 ⟨(some 10), none, .mv false (.t 0), none⟩,
 ⟨(some 11), none, .len false (.t 10), none⟩,
 ⟨(some 12), none, .mv false (.c (.int .i64 0)), none⟩] (some [3, 10, 11, 12])) (
.blk 0 (
 .loop (
 .seq (.reg false [
 ⟨(some 13), none, .bin .lss .i64 (.t 12) (.t 11), none⟩] (some [3, 10, 11, 12, 13])) (
 .seq (.ite (.t 13) (
 .skip) (
 .exit 0)) (
 .seq (.blk 1 (
 .seq (.reg false [
 ⟨(some 14), none, .ixs 4 (.t 10) (.t 12), none⟩,
 ⟨(some 15), none, .ld (some 4) (.t 14), none⟩,
 ⟨(some 5), none, .alloc [(.int .i64 0), (.int .i64 0), (.int .i64 0), (.int .i64 0)], none⟩,
 ⟨none, none, .st (some 4) (.t 5) (.t 15), none⟩] (some [3, 5, 10, 11, 12])) (
 .reg false [
 ⟨(some 16), none, .mv false (.t 3), none⟩,
 ⟨(some 17), none, .fld 1 (.t 5), none⟩,
 ⟨(some 18), none, .ld none (.t 17), none⟩,
 ⟨(some 19), none, .fld 1 (.t 5), none⟩,
 ⟨(some 20), none, .ld none (.t 19), none⟩,
 ⟨(some 21), none, .fld 3 (.t 5), none⟩,
 ⟨(some 22), none, .ld none (.t 21), none⟩,
 ⟨(some 23), none, .bin .add .i64 (.t 20) (.t 22), none⟩,
 ⟨(some 24), none, .bsl none 3 1 none [(.t 18), (.t 23)], none⟩,
 ⟨(some 25), none, .app 3 1 8 (.t 16) (.t 24), none⟩,
 ⟨(some 3), none, .mv false (.t 25), none⟩] (some [3, 10, 11, 12])))) (
 .reg false [
 ⟨(some 26), none, .bin .add .i64 (.t 12) (.c (.int .i64 1)), none⟩,
 ⟨(some 12), none, .mv false (.t 26), none⟩] (some [3, 10, 11, 12])))))))) (
.seq (.reg false [
 ⟨(some 27), none, .mv false (.t 3), none⟩,
 ⟨(some 28), none, .call true 52 [(.t 27)], none⟩] (some [3])) (
.seq (.reg false [
 ⟨(some 29), none, .mv false (.t 3), none⟩,
 ⟨(some 30), none, .call true 53 [(.t 29)], none⟩,
 ⟨(some 2), none, .mv false (.t 30), none⟩] (some [2])) (
.ret)))))
set_option maxRecDepth 1000000 in
theorem comp_band_edges : (Tryd.f26.body.bind fun code => compC Tryd.prog Tryd.f26.ntmps code c_band_edges) = some c_band_edges.bare := by kernel_rfl
def r_band_edges : List R := [.t 2]
theorem spm_band_edges {ds : List D} {d : D} {bx bx' : List Ent} (hn : Nat.ble ds.length 31 = true) (h : run TSpC gtab (sizeE bx) c_band_edges (retG r_band_edges (fun d1 bx1 => Rt (sizeE bx) bx1 d1 d bx')) ⟨env0 0 ds, bx⟩) : TSpM 26 ds bx d bx' := SpM_of mixed c_band_edges r_band_edges (fn := Tryd.f26) (by kernel_rfl) (by kernel_rfl) comp_band_edges (by kernel_rfl) hn h
/-- slices.DeleteFunc[[]glazier/api.Rect,glazier/api.Rect] -/
def c_slices_DeleteFunc_api_Rect_api_Rect : C := .seq (.reg false [
 ⟨(some 4), none, .nilS 25 4, none⟩] (some [0, 1])) (
.seq (.reg false [
 ⟨(some 8), none, .mv false (.t 0), none⟩,
 ⟨(some 9), none, .mv false (.t 1), none⟩,
 ⟨(some 10), none, .call false 54 [(.t 8), (.t 9)], none⟩,
 ⟨(some 5), none, .mv false (.t 10), none⟩] (some [0, 1, 5])) (
.seq (.seq (.reg false [
 ⟨(some 11), none, .mv false (.t 5), none⟩,
 ⟨(some 12), none, .bin .eql .i64 (.t 11) (.c (.int .i64 (-1))), none⟩] (some [0, 1, 5, 12])) (
.ite (.t 12) (
 .seq (.reg false [
 ⟨(some 13), none, .mv false (.t 0), none⟩,
 ⟨(some 4), none, .mv false (.t 13), none⟩] (some [4])) (
 .ret)) (
 .skip))) (
.seq (.seq (.reg false [
 ⟨(some 14), none, .mv false (.t 5), none⟩,
 ⟨(some 15), none, .bin .add .i64 (.t 14) (.c (.int .i64 1)), none⟩,
 ⟨(some 6), none, .mv false (.t 15), none⟩] (some [0, 1, 5, 6])) (
.blk 0 (
 .loop (
 .seq (.seq (.reg false [
 ⟨(some 16), none, .mv false (.t 6), none⟩,
 ⟨(some 17), none, .mv false (.t 0), none⟩,
 ⟨(some 18), none, .len false (.t 17), none⟩,
 ⟨(some 19), none, .bin .lss .i64 (.t 16) (.t 18), none⟩] (some [0, 1, 5, 6, 19])) (
 .ite (.t 19) (
 .skip) (
 .exit 0))) (
 .seq (.blk 1 (
 .seq (.reg false [
 ⟨(some 22), none, .mv false (.t 0), none⟩,
 ⟨(some 23), none, .mv false (.t 6), none⟩,
 ⟨(some 24), none, .ixs 4 (.t 22) (.t 23), none⟩,
 ⟨(some 25), none, .ld (some 4) (.t 24), none⟩,
 ⟨(some 7), none, .alloc [(.int .i64 0), (.int .i64 0), (.int .i64 0), (.int .i64 0)], none⟩,
 ⟨none, none, .st (some 4) (.t 7) (.t 25), none⟩] (some [0, 1, 5, 6, 7])) (
 .seq (.reg false [
 ⟨(some 26), none, .mv false (.t 1), none⟩,
 ⟨(some 27), none, .ld (some 4) (.t 7), none⟩,
 ⟨(some 28), none, .callv false (.t 26) [(.t 27)], none⟩,
 ⟨(some 29), none, .not (.t 28), none⟩] (some [0, 1, 5, 6, 7, 29])) (
 .ite (.t 29) (
 .seq (.reg false [
 ⟨(some 30), none, .mv false (.t 0), none⟩,
 ⟨(some 31), none, .mv false (.t 5), none⟩,
 ⟨(some 32), none, .ld (some 4) (.t 7), none⟩,
 ⟨(some 33), none, .ixs 4 (.t 30) (.t 31), none⟩,
 ⟨none, none, .st (some 4) (.t 33) (.t 32), none⟩] (some [0, 1, 5, 6])) (
 .reg false [
 ⟨(some 34), none, .mv false (.t 5), none⟩,
 ⟨(some 35), none, .bin .add .i64 (.t 34) (.c (.int .i64 1)), none⟩,
 ⟨(some 5), none, .mv false (.t 35), none⟩] (some [0, 1, 5, 6]))) (
 .skip))))) (
 .reg false [
 ⟨(some 20), none, .mv false (.t 6), none⟩,
 ⟨(some 21), none, .bin .add .i64 (.t 20) (.c (.int .i64 1)), none⟩,
 ⟨(some 6), none, .mv false (.t 21), none⟩] (some [0, 1, 5, 6]))))))) (
.seq (.reg false [
 ⟨(some 36), none, .mv false (.t 0), none⟩,
 ⟨(some 37), none, .mv false (.t 5), none⟩,
 ⟨(some 38), none, .prm false false (.sub 22 true false) [(.t 36), (.t 37)], none⟩,
 ⟨none, none, .prm false true (.clr 22) [(.t 38)], none⟩] (some [0, 5])) (
.seq (.reg false [
 ⟨(some 39), none, .mv false (.t 0), none⟩,
 ⟨(some 40), none, .mv false (.t 5), none⟩,
 ⟨(some 41), none, .prm false true (.trc 22) [(.t 39), (.t 40)], none⟩,
 ⟨(some 4), none, .mv false (.t 41), none⟩] (some [4])) (
.ret))))))
set_option maxRecDepth 1000000 in
theorem comp_slices_DeleteFunc_api_Rect_api_Rect : (Tryd.f27.body.bind fun code => compC Tryd.prog Tryd.f27.ntmps code c_slices_DeleteFunc_api_Rect_api_Rect) = some c_slices_DeleteFunc_api_Rect_api_Rect.bare := by kernel_rfl
def r_slices_DeleteFunc_api_Rect_api_Rect : List R := [.t 4]
theorem spm_slices_DeleteFunc_api_Rect_api_Rect {ds : List D} {d : D} {bx bx' : List Ent} (hn : Nat.ble ds.length 42 = true) (h : run TSpC gtab (sizeE bx) c_slices_DeleteFunc_api_Rect_api_Rect (retG r_slices_DeleteFunc_api_Rect_api_Rect (fun d1 bx1 => Rt (sizeE bx) bx1 d1 d bx')) ⟨env0 0 ds, bx⟩) : TSpM 27 ds bx d bx' := SpM_of mixed c_slices_DeleteFunc_api_Rect_api_Rect r_slices_DeleteFunc_api_Rect_api_Rect (fn := Tryd.f27) (by kernel_rfl) (by kernel_rfl) comp_slices_DeleteFunc_api_Rect_api_Rect (by kernel_rfl) hn h
/-- glazier/band.Of$2 -/
def c_band_Of_2 : C := .seq (.reg false [
 ⟨(some 2), none, .box true (.t 0), none⟩,
 ⟨(some 3), none, .mv false (.c (.bool false)), none⟩] (some [1, 2])) (
.seq (.reg false [
 ⟨(some 4), none, .fld 1 (.t 2), none⟩,
 ⟨(some 5), none, .ld none (.t 4), none⟩,
 ⟨(some 6), none, .fld 3 (.t 2), none⟩,
 ⟨(some 7), none, .ld none (.t 6), none⟩,
 ⟨(some 8), none, .bin .add .i64 (.t 5) (.t 7), none⟩,
 ⟨(some 9), none, .ld none (.t 1), none⟩,
 ⟨(some 10), none, .bin .leq .i64 (.t 8) (.t 9), none⟩,
 ⟨(some 3), none, .mv false (.t 10), none⟩] (some [3])) (
.ret))
set_option maxRecDepth 1000000 in
theorem comp_band_Of_2 : (Tryd.f28.body.bind fun code => compC Tryd.prog Tryd.f28.ntmps code c_band_Of_2) = some c_band_Of_2.bare := by kernel_rfl
def r_band_Of_2 : List R := [.t 3]
theorem spm_band_Of_2 {ds : List D} {d : D} {bx bx' : List Ent} (hn : Nat.ble ds.length 11 = true) (h : run TSpC gtab (sizeE bx) c_band_Of_2 (retG r_band_Of_2 (fun d1 bx1 => Rt (sizeE bx) bx1 d1 d bx')) ⟨env0 0 ds, bx⟩) : TSpM 28 ds bx d bx' := SpM_of mixed c_band_Of_2 r_band_Of_2 (fn := Tryd.f28) (by kernel_rfl) (by kernel_rfl) comp_band_Of_2 (by kernel_rfl) hn h
/-- glazier/band.spans -/
def c_band_spans : C := .seq (.reg false [
 ⟨(some 1), none, .box false (.t 0), none⟩,
 ⟨(some 2), none, .mv false (.c .nil), none⟩] (some [1])) (
.seq (.reg false [
 ⟨(some 3), none, .clo 55 [(.t 1)], none⟩,
 ⟨(some 2), none, .mv false (.t 3), none⟩] (some [2])) (
.ret))
set_option maxRecDepth 1000000 in
theorem comp_band_spans : (Tryd.f30.body.bind fun code => compC Tryd.prog Tryd.f30.ntmps code c_band_spans) = some c_band_spans.bare := by kernel_rfl
def r_band_spans : List R := [.t 2]
theorem spm_band_spans {ds : List D} {d : D} {bx bx' : List Ent} (hn : Nat.ble ds.length 4 = true) (h : run TSpC gtab (sizeE bx) c_band_spans (retG r_band_spans (fun d1 bx1 => Rt (sizeE bx) bx1 d1 d bx')) ⟨env0 0 ds, bx⟩) : TSpM 30 ds bx d bx' := SpM_of mixed c_band_spans r_band_spans (fn := Tryd.f30) (by kernel_rfl) (by kernel_rfl) comp_band_spans (by kernel_rfl) hn h
/-- glazier/band.alike -/
def c_band_alike : C := .seq (.reg false [
 ⟨(some 4), none, .mv false (.c (.bool false)), none⟩] (some [0, 1])) (
.seq (.reg false [
 ⟨(some 5), none, .mv false (.t 0), none⟩,
 ⟨(some 6), none, .len false (.t 5), none⟩,
 ⟨(some 7), none, .bin .gtr .i64 (.t 6) (.c (.int .i64 0)), none⟩,
 ⟨(some 8), none, .mv false (.t 7), none⟩,
 ⟨(some 9), some (8, true), .mv false (.t 0), none⟩,
 ⟨(some 10), some (8, true), .mv false (.t 1), none⟩,
 ⟨(some 11), some (8, true), .call false 56 [(.t 9), (.t 10), (.c (.fn 57 []))], none⟩,
 ⟨(some 12), none, .pick (.t 8) (.t 11) (.c (.bool false)), none⟩,
 ⟨(some 4), none, .mv false (.t 12), none⟩] (some [4])) (
.ret))
set_option maxRecDepth 1000000 in
theorem comp_band_alike : (Tryd.f31.body.bind fun code => compC Tryd.prog Tryd.f31.ntmps code c_band_alike) = some c_band_alike.bare := by kernel_rfl
def r_band_alike : List R := [.t 4]
theorem spo_band_alike {ds : List D} {d : D} (hn : Nat.ble ds.length 13 = true) (h : run TSpC gtab 0 c_band_alike (retK r_band_alike (· = d)) ⟨env0 0 ds, []⟩) : TSp 31 ds d := Sp_of mixed c_band_alike r_band_alike (fn := Tryd.f31) (by kernel_rfl) (by kernel_rfl) comp_band_alike (by kernel_rfl) hn h
/-- slices.Clip[[]glazier/api.Rect,glazier/api.Rect] -/
def c_slices_Clip_api_Rect_api_Rect : C := .seq (.reg false [
 ⟨(some 2), none, .nilS 25 4, none⟩] (some [0])) (
.seq (.reg false [
 ⟨(some 3), none, .mv false (.t 0), none⟩,
 ⟨(some 4), none, .mv false (.t 0), none⟩,
 ⟨(some 5), none, .len false (.t 4), none⟩,
 ⟨(some 6), none, .mv false (.t 0), none⟩,
 ⟨(some 7), none, .len false (.t 6), none⟩,
 ⟨(some 8), none, .prm false false (.clp 22) [(.t 3), (.t 5), (.t 7)], none⟩,
 ⟨(some 2), none, .mv false (.t 8), none⟩] (some [2])) (
.ret))
set_option maxRecDepth 1000000 in
theorem comp_slices_Clip_api_Rect_api_Rect : (Tryd.f32.body.bind fun code => compC Tryd.prog Tryd.f32.ntmps code c_slices_Clip_api_Rect_api_Rect) = some c_slices_Clip_api_Rect_api_Rect.bare := by kernel_rfl
def r_slices_Clip_api_Rect_api_Rect : List R := [.t 2]
theorem spo_slices_Clip_api_Rect_api_Rect {ds : List D} {d : D} (hn : Nat.ble ds.length 9 = true) (h : run TSpC gtab 0 c_slices_Clip_api_Rect_api_Rect (retK r_slices_Clip_api_Rect_api_Rect (· = d)) ⟨env0 0 ds, []⟩) : TSp 32 ds d := Sp_of mixed c_slices_Clip_api_Rect_api_Rect r_slices_Clip_api_Rect_api_Rect (fn := Tryd.f32) (by kernel_rfl) (by kernel_rfl) comp_slices_Clip_api_Rect_api_Rect (by kernel_rfl) hn h
/-- glazier/shape.sided -/
def c_shape_sided : C := .seq (.reg false [
 ⟨(some 2), none, .mv false (.c (.bool false)), none⟩] (some [0])) (
.seq (.reg false [
 ⟨(some 3), none, .mv false (.t 0), none⟩,
 ⟨(some 4), none, .bin .leq .i64 (.c (.int .i64 1)) (.t 3), none⟩,
 ⟨(some 5), none, .mv false (.t 4), none⟩,
 ⟨(some 6), some (5, true), .mv false (.t 0), none⟩,
 ⟨(some 7), some (5, true), .bin .leq .i64 (.t 6) (.c (.int .i64 128)), none⟩,
 ⟨(some 8), none, .pick (.t 5) (.t 7) (.c (.bool false)), none⟩,
 ⟨(some 2), none, .mv false (.t 8), none⟩] (some [2])) (
.ret))
set_option maxRecDepth 1000000 in
theorem comp_shape_sided : (Tryd.f33.body.bind fun code => compC Tryd.prog Tryd.f33.ntmps code c_shape_sided) = some c_shape_sided.bare := by kernel_rfl
def r_shape_sided : List R := [.t 2]
theorem spo_shape_sided {ds : List D} {d : D} (hn : Nat.ble ds.length 9 = true) (h : run TSpC gtab 0 c_shape_sided (retK r_shape_sided (· = d)) ⟨env0 0 ds, []⟩) : TSp 33 ds d := Sp_of mixed c_shape_sided r_shape_sided (fn := Tryd.f33) (by kernel_rfl) (by kernel_rfl) comp_shape_sided (by kernel_rfl) hn h
/-- (glazier/band.Region).Rects -/
def c_band_Region_Rects : C := .seq (.reg false [
 ⟨(some 1), none, .box true (.t 0), none⟩,
 ⟨(some 2), none, .nilS 25 4, none⟩] (some [1])) (
.seq (.reg false [
 ⟨(some 3), none, .fld 0 (.t 1), none⟩,
 ⟨(some 4), none, .ld none (.t 3), none⟩,
 ⟨(some 5), none, .call true 58 [(.t 4)], none⟩,
 ⟨(some 2), none, .mv false (.t 5), none⟩] (some [2])) (
.ret))
set_option maxRecDepth 1000000 in
theorem comp_band_Region_Rects : (Tryd.f34.body.bind fun code => compC Tryd.prog Tryd.f34.ntmps code c_band_Region_Rects) = some c_band_Region_Rects.bare := by kernel_rfl
def r_band_Region_Rects : List R := [.t 2]
theorem spo_band_Region_Rects {ds : List D} {d : D} (hn : Nat.ble ds.length 6 = true) (h : run TSpC gtab 0 c_band_Region_Rects (retK r_band_Region_Rects (· = d)) ⟨env0 0 ds, []⟩) : TSp 34 ds d := Sp_of mixed c_band_Region_Rects r_band_Region_Rects (fn := Tryd.f34) (by kernel_rfl) (by kernel_rfl) comp_band_Region_Rects (by kernel_rfl) hn h
theorem spm_band_Region_Rects {ds : List D} {d : D} {bx bx' : List Ent} (hn : Nat.ble ds.length 6 = true) (h : run TSpC gtab (sizeE bx) c_band_Region_Rects (retG r_band_Region_Rects (fun d1 bx1 => Rt (sizeE bx) bx1 d1 d bx')) ⟨env0 0 ds, bx⟩) : TSpM 34 ds bx d bx' := SpM_of mixed c_band_Region_Rects r_band_Region_Rects (fn := Tryd.f34) (by kernel_rfl) (by kernel_rfl) comp_band_Region_Rects (by kernel_rfl) hn h
/-- glazier/shape.ones -/
def c_shape_ones : C := .seq (.reg false [
 ⟨(some 2), none, .box false (.t 0), none⟩,
 ⟨(some 3), none, .box false (.t 1), none⟩,
 ⟨(some 4), none, .mv false (.c .nil), none⟩] (some [2, 3])) (
.seq (.reg false [
 ⟨(some 5), none, .clo 59 [(.t 3), (.t 2)], none⟩,
 ⟨(some 4), none, .mv false (.t 5), none⟩] (some [4])) (
.ret))
set_option maxRecDepth 1000000 in
theorem comp_shape_ones : (Tryd.f35.body.bind fun code => compC Tryd.prog Tryd.f35.ntmps code c_shape_ones) = some c_shape_ones.bare := by kernel_rfl
def r_shape_ones : List R := [.t 4]
theorem spm_shape_ones {ds : List D} {d : D} {bx bx' : List Ent} (hn : Nat.ble ds.length 6 = true) (h : run TSpC gtab (sizeE bx) c_shape_ones (retG r_shape_ones (fun d1 bx1 => Rt (sizeE bx) bx1 d1 d bx')) ⟨env0 0 ds, bx⟩) : TSpM 35 ds bx d bx' := SpM_of mixed c_shape_ones r_shape_ones (fn := Tryd.f35) (by kernel_rfl) (by kernel_rfl) comp_shape_ones (by kernel_rfl) hn h
/-- glazier/shape.low -/
def c_shape_low : C := .seq (.reg false [
 ⟨(some 2), none, .box true (.t 0), none⟩,
 ⟨(some 4), none, .alloc [(.ls 4 [])], none⟩] (some [1, 2, 4])) (
.seq (.reg false [
 ⟨(some 5), none, .ld (some 1) (.t 2), none⟩,
 ⟨(some 6), none, .call false 60 [(.t 5)], none⟩,
 ⟨(some 7), none, .mv false (.t 1), none⟩,
 ⟨(some 8), none, .call false 37 [(.t 6), (.t 7)], none⟩,
 ⟨(some 9), none, .call false 60 [(.t 8)], none⟩,
 ⟨none, none, .st (some 1) (.t 4) (.t 9), none⟩] (some [4])) (
.ret))
set_option maxRecDepth 1000000 in
theorem comp_shape_low : (Tryd.f36.body.bind fun code => compC Tryd.prog Tryd.f36.ntmps code c_shape_low) = some c_shape_low.bare := by kernel_rfl
def r_shape_low : List R := [.cell 4 (some 1)]
theorem spo_shape_low {ds : List D} {d : D} (hn : Nat.ble ds.length 10 = true) (h : run TSpC gtab 0 c_shape_low (retK r_shape_low (· = d)) ⟨env0 0 ds, []⟩) : TSp 36 ds d := Sp_of mixed c_shape_low r_shape_low (fn := Tryd.f36) (by kernel_rfl) (by kernel_rfl) comp_shape_low (by kernel_rfl) hn h
/-- glazier/shape.thin -/
def c_shape_thin : C := .seq (.reg false [
 ⟨(some 2), none, .box true (.t 0), none⟩,
 ⟨(some 4), none, .alloc [(.ls 4 [])], none⟩] (some [1, 2, 4])) (
.seq (.reg false [
 ⟨(some 7), none, .ld (some 1) (.t 2), none⟩,
 ⟨(some 8), none, .call true 34 [(.t 7)], none⟩,
 ⟨(some 5), none, .mv false (.t 8), none⟩] (some [1, 4, 5])) (
.seq (.seq (.reg false [
 ⟨(some 9), none, .mv false (.t 5), none⟩,
 ⟨(some 10), none, .len false (.t 9), none⟩,
 ⟨(some 11), none, .mv false (.c (.int .i64 0)), none⟩] (some [1, 4, 5, 10, 11])) (
.blk 0 (
 .loop (
 .seq (.reg false [
 ⟨(some 12), none, .bin .lss .i64 (.t 11) (.t 10), none⟩] (some [1, 4, 5, 10, 11, 12])) (
 .seq (.ite (.t 12) (
 .skip) (
 .exit 0)) (
 .seq (.blk 1 (
 .seq (.reg false [
 ⟨(some 13), none, .mv false (.t 11), none⟩,
 ⟨(some 6), none, .mv false (.t 13), none⟩] (some [1, 4, 5, 6, 10, 11])) (
 .seq (.reg false [
 ⟨(some 14), none, .mv false (.t 5), none⟩,
 ⟨(some 15), none, .mv false (.t 6), none⟩,
 ⟨(some 16), none, .ixs 4 (.t 14) (.t 15), none⟩,
 ⟨(some 17), none, .fld 0 (.t 16), none⟩,
 ⟨(some 18), none, .ld none (.t 17), none⟩,
 ⟨(some 19), none, .mv false (.t 1), none⟩,
 ⟨(some 20), none, .bin .add .i64 (.t 18) (.t 19), none⟩,
 ⟨(some 21), none, .ixs 4 (.t 14) (.t 15), none⟩,
 ⟨(some 22), none, .fld 0 (.t 21), none⟩,
 ⟨none, none, .st none (.t 22) (.t 20), none⟩] (some [1, 4, 5, 6, 10, 11])) (
 .reg false [
 ⟨(some 23), none, .mv false (.t 5), none⟩,
 ⟨(some 24), none, .mv false (.t 6), none⟩,
 ⟨(some 25), none, .ixs 4 (.t 23) (.t 24), none⟩,
 ⟨(some 26), none, .fld 2 (.t 25), none⟩,
 ⟨(some 27), none, .ld none (.t 26), none⟩,
 ⟨(some 28), none, .mv false (.t 1), none⟩,
 ⟨(some 29), none, .bin .mul .i64 (.c (.int .i64 2)) (.t 28), none⟩,
 ⟨(some 30), none, .bin .sub .i64 (.t 27) (.t 29), none⟩,
 ⟨(some 31), none, .ixs 4 (.t 23) (.t 24), none⟩,
 ⟨(some 32), none, .fld 2 (.t 31), none⟩,
 ⟨none, none, .st none (.t 32) (.t 30), none⟩] (some [1, 4, 5, 10, 11]))))) (
 .reg false [
 ⟨(some 33), none, .bin .add .i64 (.t 11) (.c (.int .i64 1)), none⟩,
 ⟨(some 11), none, .mv false (.t 33), none⟩] (some [1, 4, 5, 10, 11])))))))) (
.seq (.reg false [
 ⟨(some 34), none, .mv false (.t 5), none⟩,
 ⟨(some 35), none, .call true 7 [(.t 34)], none⟩,
 ⟨none, none, .st (some 1) (.t 4) (.t 35), none⟩] (some [4])) (
.ret))))
set_option maxRecDepth 1000000 in
theorem comp_shape_thin : (Tryd.f37.body.bind fun code => compC Tryd.prog Tryd.f37.ntmps code c_shape_thin) = some c_shape_thin.bare := by kernel_rfl
def r_shape_thin : List R := [.cell 4 (some 1)]
theorem spo_shape_thin {ds : List D} {d : D} (hn : Nat.ble ds.length 36 = true) (h : run TSpC gtab 0 c_shape_thin (retK r_shape_thin (· = d)) ⟨env0 0 ds, []⟩) : TSp 37 ds d := Sp_of mixed c_shape_thin r_shape_thin (fn := Tryd.f37) (by kernel_rfl) (by kernel_rfl) comp_shape_thin (by kernel_rfl) hn h
/-- glazier/shape.wider -/
def c_shape_wider : C := .seq (.reg false [
 ⟨(some 2), none, .box true (.t 0), none⟩,
 ⟨(some 4), none, .alloc [(.int .i64 0), (.int .i64 0), (.int .i64 0), (.int .i64 0)], none⟩] (some [1, 2, 4])) (
.seq (.reg false [
 ⟨(some 5), none, .fld 0 (.t 2), none⟩,
 ⟨(some 6), none, .ld none (.t 5), none⟩,
 ⟨(some 7), none, .mv false (.t 1), none⟩,
 ⟨(some 8), none, .bin .sub .i64 (.t 6) (.t 7), none⟩,
 ⟨(some 9), none, .fld 1 (.t 2), none⟩,
 ⟨(some 10), none, .ld none (.t 9), none⟩,
 ⟨(some 11), none, .mv false (.t 1), none⟩,
 ⟨(some 12), none, .bin .sub .i64 (.t 10) (.t 11), none⟩,
 ⟨(some 13), none, .fld 2 (.t 2), none⟩,
 ⟨(some 14), none, .ld none (.t 13), none⟩,
 ⟨(some 15), none, .mv false (.t 1), none⟩,
 ⟨(some 16), none, .bin .mul .i64 (.c (.int .i64 2)) (.t 15), none⟩,
 ⟨(some 17), none, .bin .add .i64 (.t 14) (.t 16), none⟩,
 ⟨(some 18), none, .fld 3 (.t 2), none⟩,
 ⟨(some 19), none, .ld none (.t 18), none⟩,
 ⟨(some 20), none, .mv false (.t 1), none⟩,
 ⟨(some 21), none, .bin .mul .i64 (.c (.int .i64 2)) (.t 20), none⟩,
 ⟨(some 22), none, .bin .add .i64 (.t 19) (.t 21), none⟩,
 ⟨(some 23), none, .bld [(.int .i64 0), (.int .i64 0), (.int .i64 0), (.int .i64 0)] [(0, none, (.t 8)), (1, none, (.t 12)), (2, none, (.t 17)), (3, none, (.t 22))], none⟩,
 ⟨none, none, .st (some 4) (.t 4) (.t 23), none⟩] (some [4])) (
.ret))
set_option maxRecDepth 1000000 in
theorem comp_shape_wider : (Tryd.f38.body.bind fun code => compC Tryd.prog Tryd.f38.ntmps code c_shape_wider) = some c_shape_wider.bare := by kernel_rfl
def r_shape_wider : List R := [.cell 4 (some 4)]
theorem spo_shape_wider {ds : List D} {d : D} (hn : Nat.ble ds.length 24 = true) (h : run TSpC gtab 0 c_shape_wider (retK r_shape_wider (· = d)) ⟨env0 0 ds, []⟩) : TSp 38 ds d := Sp_of mixed c_shape_wider r_shape_wider (fn := Tryd.f38) (by kernel_rfl) (by kernel_rfl) comp_shape_wider (by kernel_rfl) hn h
/-- (glazier/band.Region).Box -/
def c_band_Region_Box : C := .seq (.reg false [
 ⟨(some 1), none, .box true (.t 0), none⟩,
 ⟨(some 2), none, .alloc [(.int .i64 0), (.int .i64 0), (.int .i64 0), (.int .i64 0)], none⟩] (some [1, 2])) (
.seq (.seq (.reg false [
 ⟨(some 9), none, .fld 0 (.t 1), none⟩,
 ⟨(some 10), none, .ld none (.t 9), none⟩,
 ⟨(some 11), none, .len false (.t 10), none⟩,
 ⟨(some 12), none, .bin .eql .i64 (.t 11) (.c (.int .i64 0)), none⟩] (some [1, 2, 12])) (
.ite (.t 12) (
 .seq (.reg false [
 ⟨(some 13), none, .bld [(.int .i64 0), (.int .i64 0), (.int .i64 0), (.int .i64 0)] [], none⟩,
 ⟨none, none, .st (some 4) (.t 2) (.t 13), none⟩] (some [2])) (
 .ret)) (
 .skip))) (
.seq (.reg true [
 ⟨(some 14), none, .fld 0 (.t 1), none⟩,
 ⟨(some 15), none, .ld none (.t 14), (some [0])⟩,
 ⟨(some 16), none, .ixs 4 (.t 15) (.c (.int .i64 0)), (some [])⟩,
 ⟨(some 17), none, .ld (some 4) (.t 16), (some [])⟩,
 ⟨(some 18), none, .fld 0 (.t 1), none⟩,
 ⟨(some 19), none, .ld none (.t 18), (some [0])⟩,
 ⟨(some 20), none, .fld 0 (.t 1), none⟩,
 ⟨(some 21), none, .ld none (.t 20), (some [0])⟩,
 ⟨(some 22), none, .len false (.t 21), (some [])⟩,
 ⟨(some 23), none, .bin .sub .i64 (.t 22) (.c (.int .i64 1)), none⟩,
 ⟨(some 24), none, .ixs 4 (.t 19) (.t 23), (some [])⟩,
 ⟨(some 25), none, .ld (some 4) (.t 24), (some [])⟩,
 ⟨(some 3), none, .alloc [(.int .i64 0), (.int .i64 0), (.int .i64 0), (.int .i64 0)], (some [2, 3])⟩,
 ⟨(some 4), none, .alloc [(.int .i64 0), (.int .i64 0), (.int .i64 0), (.int .i64 0)], (some [2, 3])⟩,
 ⟨none, none, .st (some 4) (.t 3) (.t 17), (some [2])⟩,
 ⟨none, none, .st (some 4) (.t 4) (.t 25), (some [3])⟩] (some [1, 2, 3, 4])) (
.seq (.reg true [
 ⟨(some 26), none, .fld 0 (.t 3), none⟩,
 ⟨(some 27), none, .ld none (.t 26), none⟩,
 ⟨(some 28), none, .fld 0 (.t 3), none⟩,
 ⟨(some 29), none, .ld none (.t 28), none⟩,
 ⟨(some 30), none, .fld 2 (.t 3), none⟩,
 ⟨(some 31), none, .ld none (.t 30), none⟩,
 ⟨(some 32), none, .bin .add .i64 (.t 29) (.t 31), none⟩,
 ⟨(some 5), none, .mv false (.t 27), none⟩,
 ⟨(some 6), none, .mv false (.t 32), none⟩] (some [1, 2, 3, 4, 5, 6])) (
.seq (.seq (.reg false [
 ⟨(some 33), none, .fld 0 (.t 1), none⟩,
 ⟨(some 34), none, .ld none (.t 33), none⟩,
 ⟨(some 35), none, .len false (.t 34), none⟩,
 ⟨(some 36), none, .mv false (.c (.int .i64 0)), none⟩] (some [2, 3, 4, 5, 6, 34, 35, 36])) (
.blk 0 (
 .loop (
 .seq (.reg false [
 ⟨(some 37), none, .bin .lss .i64 (.t 36) (.t 35), none⟩] (some [2, 3, 4, 5, 6, 34, 35, 36, 37])) (
 .seq (.ite (.t 37) (
 .skip) (
 .exit 0)) (
 .seq (.blk 1 (
 .seq (.reg false [
 ⟨(some 38), none, .ixs 4 (.t 34) (.t 36), none⟩,
 ⟨(some 39), none, .ld (some 4) (.t 38), none⟩,
 ⟨(some 8), none, .alloc [(.int .i64 0), (.int .i64 0), (.int .i64 0), (.int .i64 0)], none⟩,
 ⟨none, none, .st (some 4) (.t 8) (.t 39), none⟩] (some [2, 3, 4, 5, 6, 8, 34, 35, 36])) (
 .seq (.reg false [
 ⟨(some 40), none, .mv false (.t 5), none⟩,
 ⟨(some 41), none, .fld 0 (.t 8), none⟩,
 ⟨(some 42), none, .ld none (.t 41), none⟩,
 ⟨(some 43), none, .mn (.t 40) (.t 42), none⟩,
 ⟨(some 5), none, .mv false (.t 43), none⟩] (some [2, 3, 4, 5, 6, 8, 34, 35, 36])) (
 .reg false [
 ⟨(some 44), none, .mv false (.t 6), none⟩,
 ⟨(some 45), none, .fld 0 (.t 8), none⟩,
 ⟨(some 46), none, .ld none (.t 45), none⟩,
 ⟨(some 47), none, .fld 2 (.t 8), none⟩,
 ⟨(some 48), none, .ld none (.t 47), none⟩,
 ⟨(some 49), none, .bin .add .i64 (.t 46) (.t 48), none⟩,
 ⟨(some 50), none, .mx (.t 44) (.t 49), none⟩,
 ⟨(some 6), none, .mv false (.t 50), none⟩] (some [2, 3, 4, 5, 6, 34, 35, 36]))))) (
 .reg false [
 ⟨(some 51), none, .bin .add .i64 (.t 36) (.c (.int .i64 1)), none⟩,
 ⟨(some 36), none, .mv false (.t 51), none⟩] (some [2, 3, 4, 5, 6, 34, 35, 36])))))))) (
.seq (.reg false [
 ⟨(some 52), none, .mv false (.t 5), none⟩,
 ⟨(some 53), none, .fld 1 (.t 3), none⟩,
 ⟨(some 54), none, .ld none (.t 53), none⟩,
 ⟨(some 55), none, .mv false (.t 6), none⟩,
 ⟨(some 56), none, .mv false (.t 5), none⟩,
 ⟨(some 57), none, .bin .sub .i64 (.t 55) (.t 56), none⟩,
 ⟨(some 58), none, .fld 1 (.t 4), none⟩,
 ⟨(some 59), none, .ld none (.t 58), none⟩,
 ⟨(some 60), none, .fld 3 (.t 4), none⟩,
 ⟨(some 61), none, .ld none (.t 60), none⟩,
 ⟨(some 62), none, .bin .add .i64 (.t 59) (.t 61), none⟩,
 ⟨(some 63), none, .fld 1 (.t 3), none⟩,
 ⟨(some 64), none, .ld none (.t 63), none⟩,
 ⟨(some 65), none, .bin .sub .i64 (.t 62) (.t 64), none⟩,
 ⟨(some 66), none, .bld [(.int .i64 0), (.int .i64 0), (.int .i64 0), (.int .i64 0)] [(0, none, (.t 52)), (1, none, (.t 54)), (2, none, (.t 57)), (3, none, (.t 65))], none⟩,
 ⟨none, none, .st (some 4) (.t 2) (.t 66), none⟩] (some [2])) (
.ret))))))
set_option maxRecDepth 1000000 in
theorem comp_band_Region_Box : (Tryd.f39.body.bind fun code => compC Tryd.prog Tryd.f39.ntmps code c_band_Region_Box) = some c_band_Region_Box.bare := by kernel_rfl
def r_band_Region_Box : List R := [.cell 2 (some 4)]
theorem spo_band_Region_Box {ds : List D} {d : D} (hn : Nat.ble ds.length 67 = true) (h : run TSpC gtab 0 c_band_Region_Box (retK r_band_Region_Box (· = d)) ⟨env0 0 ds, []⟩) : TSp 39 ds d := Sp_of mixed c_band_Region_Box r_band_Region_Box (fn := Tryd.f39) (by kernel_rfl) (by kernel_rfl) comp_band_Region_Box (by kernel_rfl) hn h
/-- (glazier/band.Region).Empty -/
def c_band_Region_Empty : C := .seq (.reg false [
 ⟨(some 1), none, .box true (.t 0), none⟩,
 ⟨(some 2), none, .mv false (.c (.bool false)), none⟩] (some [1])) (
.seq (.reg false [
 ⟨(some 3), none, .fld 0 (.t 1), none⟩,
 ⟨(some 4), none, .ld none (.t 3), none⟩,
 ⟨(some 5), none, .len false (.t 4), none⟩,
 ⟨(some 6), none, .bin .eql .i64 (.t 5) (.c (.int .i64 0)), none⟩,
 ⟨(some 2), none, .mv false (.t 6), none⟩] (some [2])) (
.ret))
set_option maxRecDepth 1000000 in
theorem comp_band_Region_Empty : (Tryd.f40.body.bind fun code => compC Tryd.prog Tryd.f40.ntmps code c_band_Region_Empty) = some c_band_Region_Empty.bare := by kernel_rfl
def r_band_Region_Empty : List R := [.t 2]
theorem spo_band_Region_Empty {ds : List D} {d : D} (hn : Nat.ble ds.length 7 = true) (h : run TSpC gtab 0 c_band_Region_Empty (retK r_band_Region_Empty (· = d)) ⟨env0 0 ds, []⟩) : TSp 40 ds d := Sp_of mixed c_band_Region_Empty r_band_Region_Empty (fn := Tryd.f40) (by kernel_rfl) (by kernel_rfl) comp_band_Region_Empty (by kernel_rfl) hn h
/-- slices.Equal[[]glazier/api.Rect,glazier/api.Rect] -/
def c_slices_Equal_api_Rect_api_Rect : C := .seq (.reg false [
 ⟨(some 4), none, .mv false (.c (.bool false)), none⟩] (some [0, 1])) (
.seq (.seq (.reg false [
 ⟨(some 6), none, .mv false (.t 0), none⟩,
 ⟨(some 7), none, .len false (.t 6), none⟩,
 ⟨(some 8), none, .mv false (.t 1), none⟩,
 ⟨(some 9), none, .len false (.t 8), none⟩,
 ⟨(some 10), none, .bin .neq .i64 (.t 7) (.t 9), none⟩] (some [0, 1, 10])) (
.ite (.t 10) (
 .seq (.reg false [
 ⟨(some 4), none, .mv false (.c (.bool false)), none⟩] (some [4])) (
 .ret)) (
 .skip))) (
.seq (.seq (.reg false [
 ⟨(some 11), none, .mv false (.t 0), none⟩,
 ⟨(some 12), none, .len false (.t 11), none⟩,
 ⟨(some 13), none, .mv false (.c (.int .i64 0)), none⟩] (some [0, 1, 12, 13])) (
.blk 0 (
 .loop (
 .seq (.reg false [
 ⟨(some 14), none, .bin .lss .i64 (.t 13) (.t 12), none⟩] (some [0, 1, 12, 13, 14])) (
 .seq (.ite (.t 14) (
 .skip) (
 .exit 0)) (
 .seq (.blk 1 (
 .seq (.reg false [
 ⟨(some 15), none, .mv false (.t 13), none⟩,
 ⟨(some 5), none, .mv false (.t 15), none⟩] (some [0, 1, 5, 12, 13])) (
 .seq (.reg true [
 ⟨(some 16), none, .mv false (.t 0), none⟩,
 ⟨(some 17), none, .mv false (.t 5), none⟩,
 ⟨(some 18), none, .ixs 4 (.t 16) (.t 17), none⟩,
 ⟨(some 19), none, .ld (some 4) (.t 18), none⟩,
 ⟨(some 20), none, .mv false (.t 1), none⟩,
 ⟨(some 21), none, .mv false (.t 5), none⟩,
 ⟨(some 22), none, .ixs 4 (.t 20) (.t 21), none⟩,
 ⟨(some 23), none, .ld (some 4) (.t 22), none⟩,
 ⟨(some 24), none, .eqS true [.i .i64, .i .i64, .i .i64, .i .i64] (.t 19) (.t 23), none⟩] (some [0, 1, 12, 13, 24])) (
 .ite (.t 24) (
 .seq (.reg false [
 ⟨(some 4), none, .mv false (.c (.bool false)), none⟩] (some [4])) (
 .ret)) (
 .skip))))) (
 .reg false [
 ⟨(some 25), none, .bin .add .i64 (.t 13) (.c (.int .i64 1)), none⟩,
 ⟨(some 13), none, .mv false (.t 25), none⟩] (some [0, 1, 12, 13])))))))) (
.seq (.reg false [
 ⟨(some 4), none, .mv false (.c (.bool true)), none⟩] (some [4])) (
.ret))))
set_option maxRecDepth 1000000 in
theorem comp_slices_Equal_api_Rect_api_Rect : (Tryd.f41.body.bind fun code => compC Tryd.prog Tryd.f41.ntmps code c_slices_Equal_api_Rect_api_Rect) = some c_slices_Equal_api_Rect_api_Rect.bare := by kernel_rfl
def r_slices_Equal_api_Rect_api_Rect : List R := [.t 4]
theorem spo_slices_Equal_api_Rect_api_Rect {ds : List D} {d : D} (hn : Nat.ble ds.length 26 = true) (h : run TSpC gtab 0 c_slices_Equal_api_Rect_api_Rect (retK r_slices_Equal_api_Rect_api_Rect (· = d)) ⟨env0 0 ds, []⟩) : TSp 41 ds d := Sp_of mixed c_slices_Equal_api_Rect_api_Rect r_slices_Equal_api_Rect_api_Rect (fn := Tryd.f41) (by kernel_rfl) (by kernel_rfl) comp_slices_Equal_api_Rect_api_Rect (by kernel_rfl) hn h
/-- glazier/region.Minus$1 -/
def c_region_Minus_1 : C := .seq (.reg false [
 ⟨(some 4), none, .mv false (.c (.bool false)), none⟩] (some [0, 1])) (
.seq (.reg false [
 ⟨(some 5), none, .mv false (.t 0), none⟩,
 ⟨(some 6), none, .mv false (.t 5), none⟩,
 ⟨(some 7), some (6, true), .mv false (.t 1), none⟩,
 ⟨(some 8), some (6, true), .not (.t 7), none⟩,
 ⟨(some 9), none, .pick (.t 6) (.t 8) (.c (.bool false)), none⟩,
 ⟨(some 4), none, .mv false (.t 9), none⟩] (some [4])) (
.ret))
set_option maxRecDepth 1000000 in
theorem comp_region_Minus_1 : (Tryd.f42.body.bind fun code => compC Tryd.prog Tryd.f42.ntmps code c_region_Minus_1) = some c_region_Minus_1.bare := by kernel_rfl
def r_region_Minus_1 : List R := [.t 4]
theorem spo_region_Minus_1 {ds : List D} {d : D} (hn : Nat.ble ds.length 10 = true) (h : run TSpC gtab 0 c_region_Minus_1 (retK r_region_Minus_1 (· = d)) ⟨env0 0 ds, []⟩) : TSp 42 ds d := Sp_of mixed c_region_Minus_1 r_region_Minus_1 (fn := Tryd.f42) (by kernel_rfl) (by kernel_rfl) comp_region_Minus_1 (by kernel_rfl) hn h
/-- (glazier/region.rule).join -/
def c_region_rule_join : C := .seq (.reg false [
 ⟨(some 3), none, .box true (.t 0), none⟩,
 ⟨(some 4), none, .box true (.t 1), none⟩,
 ⟨(some 5), none, .box true (.t 2), none⟩,
 ⟨(some 6), none, .alloc [(.ls 4 [])], none⟩] (some [3, 4, 5, 6])) (
.seq (.reg true [
 ⟨(some 22), none, .ld (some 1) (.t 4), none⟩,
 ⟨(some 23), none, .call false 34 [(.t 22)], none⟩,
 ⟨(some 24), none, .ld (some 1) (.t 5), none⟩,
 ⟨(some 25), none, .call false 34 [(.t 24)], none⟩,
 ⟨(some 7), none, .mv false (.t 23), none⟩,
 ⟨(some 8), none, .mv false (.t 25), none⟩] (some [3, 6, 7, 8])) (
.seq (.reg false [
 ⟨(some 26), none, .mv false (.t 7), none⟩,
 ⟨(some 27), none, .mv false (.t 8), none⟩,
 ⟨(some 28), none, .bsl none 22 1 none [(.t 26), (.t 27)], none⟩,
 ⟨(some 29), none, .call false 61 [(.c (.fn 62 [])), (.t 28)], none⟩,
 ⟨(some 9), none, .mv false (.t 29), none⟩] (some [3, 6, 7, 8, 9])) (
.seq (.reg false [
 ⟨(some 30), none, .mv false (.t 7), none⟩,
 ⟨(some 31), none, .bld [(.ls 4 [])] [(0, none, (.t 30))], none⟩,
 ⟨(some 32), none, .mv false (.t 8), none⟩,
 ⟨(some 33), none, .bld [(.ls 4 [])] [(0, none, (.t 32))], none⟩,
 ⟨(some 10), none, .alloc [(.ls 4 [])], none⟩,
 ⟨(some 11), none, .alloc [(.ls 4 [])], none⟩,
 ⟨none, none, .st (some 1) (.t 10) (.t 31), none⟩,
 ⟨none, none, .st (some 1) (.t 11) (.t 33), none⟩] (some [3, 6, 9, 10, 11])) (
.seq (.reg false [
 ⟨(some 12), none, .nilS 25 4, none⟩] (some [3, 6, 9, 10, 11, 12])) (
.seq (.seq (.reg false [
 ⟨(some 13), none, .mv false (.c (.int .i64 0)), none⟩] (some [3, 6, 9, 10, 11, 12, 13])) (
.blk 0 (
 .loop (
 .seq (.seq (.reg false [
 ⟨(some 34), none, .mv false (.t 13), none⟩,
 ⟨(some 35), none, .bin .add .i64 (.t 34) (.c (.int .i64 1)), none⟩,
 ⟨(some 36), none, .mv false (.t 9), none⟩,
 ⟨(some 37), none, .len false (.t 36), none⟩,
 ⟨(some 38), none, .bin .lss .i64 (.t 35) (.t 37), none⟩] (some [3, 6, 9, 10, 11, 12, 13, 38])) (
 .ite (.t 38) (
 .skip) (
 .exit 0))) (
 .seq (.blk 1 (
 .seq (.reg true [
 ⟨(some 41), none, .mv false (.t 9), none⟩,
 ⟨(some 42), none, .mv false (.t 13), none⟩,
 ⟨(some 43), none, .ixs 1 (.t 41) (.t 42), none⟩,
 ⟨(some 44), none, .ld none (.t 43), none⟩,
 ⟨(some 45), none, .mv false (.t 9), none⟩,
 ⟨(some 46), none, .mv false (.t 13), none⟩,
 ⟨(some 47), none, .bin .add .i64 (.t 46) (.c (.int .i64 1)), none⟩,
 ⟨(some 48), none, .ixs 1 (.t 45) (.t 47), none⟩,
 ⟨(some 49), none, .ld none (.t 48), none⟩,
 ⟨(some 50), none, .mv false (.t 9), none⟩,
 ⟨(some 51), none, .mv false (.t 13), none⟩,
 ⟨(some 52), none, .ixs 1 (.t 50) (.t 51), none⟩,
 ⟨(some 53), none, .ld none (.t 52), none⟩,
 ⟨(some 54), none, .bin .sub .i64 (.t 49) (.t 53), none⟩,
 ⟨(some 14), none, .mv false (.t 44), none⟩,
 ⟨(some 15), none, .mv false (.t 54), none⟩] (some [3, 6, 9, 10, 11, 12, 13, 14, 15])) (
 .seq (.reg false [
 ⟨(some 55), none, .mv false (.t 14), none⟩,
 ⟨(some 56), none, .call true 63 [(.t 10), (.t 55)], none⟩,
 ⟨(some 57), none, .mv false (.t 14), none⟩,
 ⟨(some 58), none, .call true 63 [(.t 11), (.t 57)], none⟩,
 ⟨(some 16), none, .alloc [(.ls 4 [])], none⟩,
 ⟨(some 17), none, .alloc [(.ls 4 [])], none⟩,
 ⟨none, none, .st none (.t 16) (.t 56), none⟩,
 ⟨none, none, .st none (.t 17) (.t 58), none⟩] (some [3, 6, 9, 10, 11, 12, 13, 14, 15, 16, 17])) (
 .seq (.reg false [
 ⟨(some 59), none, .ld none (.t 16), none⟩,
 ⟨(some 60), none, .ld none (.t 17), none⟩,
 ⟨(some 61), none, .bsl none 22 1 none [(.t 59), (.t 60)], none⟩,
 ⟨(some 62), none, .call false 61 [(.c (.fn 64 [])), (.t 61)], none⟩,
 ⟨(some 18), none, .mv false (.t 62), none⟩] (some [3, 6, 9, 10, 11, 12, 13, 14, 15, 16, 17, 18])) (
 .seq (.reg false [
 ⟨(some 19), none, .mv false (.c (.int .i64 0)), none⟩] (some [3, 6, 9, 10, 11, 12, 13, 14, 15, 16, 17, 18, 19])) (
 .blk 2 (
 .loop (
 .seq (.seq (.reg false [
 ⟨(some 63), none, .mv false (.t 19), none⟩,
 ⟨(some 64), none, .bin .add .i64 (.t 63) (.c (.int .i64 1)), none⟩,
 ⟨(some 65), none, .mv false (.t 18), none⟩,
 ⟨(some 66), none, .len false (.t 65), none⟩,
 ⟨(some 67), none, .bin .lss .i64 (.t 64) (.t 66), none⟩] (some [3, 6, 9, 10, 11, 12, 13, 14, 15, 16, 17, 18, 19, 67])) (
 .ite (.t 67) (
 .skip) (
 .exit 2))) (
 .seq (.blk 3 (
 .seq (.reg true [
 ⟨(some 70), none, .mv false (.t 18), none⟩,
 ⟨(some 71), none, .mv false (.t 19), none⟩,
 ⟨(some 72), none, .ixs 1 (.t 70) (.t 71), none⟩,
 ⟨(some 73), none, .ld none (.t 72), none⟩,
 ⟨(some 74), none, .mv false (.t 18), none⟩,
 ⟨(some 75), none, .mv false (.t 19), none⟩,
 ⟨(some 76), none, .bin .add .i64 (.t 75) (.c (.int .i64 1)), none⟩,
 ⟨(some 77), none, .ixs 1 (.t 74) (.t 76), none⟩,
 ⟨(some 78), none, .ld none (.t 77), none⟩,
 ⟨(some 79), none, .mv false (.t 18), none⟩,
 ⟨(some 80), none, .mv false (.t 19), none⟩,
 ⟨(some 81), none, .ixs 1 (.t 79) (.t 80), none⟩,
 ⟨(some 82), none, .ld none (.t 81), none⟩,
 ⟨(some 83), none, .bin .sub .i64 (.t 78) (.t 82), none⟩,
 ⟨(some 20), none, .mv false (.t 73), none⟩,
 ⟨(some 21), none, .mv false (.t 83), none⟩] (some [3, 6, 9, 10, 11, 12, 13, 14, 15, 16, 17, 18, 19, 20, 21])) (
 .seq (.reg true [
 ⟨(some 84), none, .fld 0 (.t 3), none⟩,
 ⟨(some 85), none, .ld none (.t 84), (some [0])⟩,
 ⟨(some 86), none, .mv false (.t 20), none⟩,
 ⟨(some 87), none, .callK [7] 65 [(.t 16), (.t 86)], none⟩,
 ⟨(some 88), none, .mv false (.t 20), none⟩,
 ⟨(some 89), none, .callK [8] 65 [(.t 17), (.t 88)], none⟩,
 ⟨(some 90), none, .callv false (.t 85) [(.t 87), (.t 89)], none⟩] (some [3, 6, 9, 10, 11, 12, 13, 14, 15, 16, 17, 18, 19, 20, 21, 90])) (
 .ite (.t 90) (
 .reg false [
 ⟨(some 91), none, .mv false (.t 12), none⟩,
 ⟨(some 92), none, .mv false (.t 20), none⟩,
 ⟨(some 93), none, .mv false (.t 14), none⟩,
 ⟨(some 94), none, .mv false (.t 21), none⟩,
 ⟨(some 95), none, .mv false (.t 15), none⟩,
 ⟨(some 96), none, .bld [(.int .i64 0), (.int .i64 0), (.int .i64 0), (.int .i64 0)] [(0, none, (.t 92)), (1, none, (.t 93)), (2, none, (.t 94)), (3, none, (.t 95))], none⟩,
 ⟨(some 97), none, .bsl none 25 4 (some 4) [(.t 96)], none⟩,
 ⟨(some 98), none, .app 25 4 32 (.t 91) (.t 97), none⟩,
 ⟨(some 12), none, .mv false (.t 98), none⟩] (some [3, 6, 9, 10, 11, 12, 13, 14, 15, 16, 17, 18, 19])) (
 .skip))))) (
 .reg false [
 ⟨(some 68), none, .mv false (.t 19), none⟩,
 ⟨(some 69), none, .bin .add .i64 (.t 68) (.c (.int .i64 1)), none⟩,
 ⟨(some 19), none, .mv false (.t 69), none⟩] (some [3, 6, 9, 10, 11, 12, 13, 14, 15, 16, 17, 18, 19]))))))))))) (
 .reg false [
 ⟨(some 39), none, .mv false (.t 13), none⟩,
 ⟨(some 40), none, .bin .add .i64 (.t 39) (.c (.int .i64 1)), none⟩,
 ⟨(some 13), none, .mv false (.t 40), none⟩] (some [3, 6, 9, 10, 11, 12, 13]))))))) (
.seq (.reg false [
 ⟨(some 99), none, .mv false (.t 12), none⟩,
 ⟨(some 100), none, .call true 7 [(.t 99)], none⟩,
 ⟨none, none, .st (some 1) (.t 6) (.t 100), none⟩] (some [6])) (
.ret)))))))
set_option maxRecDepth 1000000 in
theorem comp_region_rule_join : (Tryd.f43.body.bind fun code => compC Tryd.prog Tryd.f43.ntmps code c_region_rule_join) = some c_region_rule_join.bare := by kernel_rfl
def r_region_rule_join : List R := [.cell 6 (some 1)]
theorem spo_region_rule_join {ds : List D} {d : D} (hn : Nat.ble ds.length 101 = true) (h : run TSpC gtab 0 c_region_rule_join (retK r_region_rule_join (· = d)) ⟨env0 0 ds, []⟩) : TSp 43 ds d := Sp_of mixed c_region_rule_join r_region_rule_join (fn := Tryd.f43) (by kernel_rfl) (by kernel_rfl) comp_region_rule_join (by kernel_rfl) hn h
/-- glazier/gravity.Shift -/
def c_gravity_Shift : C := .seq (.reg false [
 ⟨(some 4), none, .box true (.t 1), none⟩,
 ⟨(some 5), none, .box true (.t 2), none⟩,
 ⟨(some 6), none, .alloc [(.int .i64 0), (.int .i64 0)], none⟩,
 ⟨(some 7), none, .mv false (.c (.bool false)), none⟩] (some [0, 4, 5, 6])) (
.seq (.seq (.reg false [
 ⟨(some 9), none, .mv false (.t 0), none⟩,
 ⟨(some 10), none, .bin .eql .i64 (.t 9) (.c (.int .i64 0)), none⟩,
 ⟨(some 11), none, .mv false (.t 10), none⟩,
 ⟨(some 12), some (11, false), .mv false (.t 0), none⟩,
 ⟨(some 13), some (11, false), .call false 66 [(.t 12)], none⟩,
 ⟨(some 14), some (11, false), .bin .neq .i64 (.t 13) (.c (.int .i64 0)), none⟩,
 ⟨(some 15), none, .pick (.t 11) (.c (.bool true)) (.t 14), none⟩,
 ⟨(some 16), none, .mv false (.t 15), none⟩,
 ⟨(some 17), some (16, false), .ld (some 4) (.t 4), none⟩,
 ⟨(some 18), some (16, false), .call false 67 [(.t 17)], none⟩,
 ⟨(some 19), none, .pick (.t 16) (.c (.bool true)) (.t 18), none⟩,
 ⟨(some 20), none, .mv false (.t 19), none⟩,
 ⟨(some 21), some (20, false), .ld (some 4) (.t 5), none⟩,
 ⟨(some 22), some (20, false), .call false 67 [(.t 21)], none⟩,
 ⟨(some 23), none, .pick (.t 20) (.c (.bool true)) (.t 22), none⟩] (some [0, 4, 5, 6, 23])) (
.ite (.t 23) (
 .seq (.reg false [
 ⟨(some 24), none, .bld [(.int .i64 0), (.int .i64 0)] [], none⟩,
 ⟨none, none, .st (some 2) (.t 6) (.t 24), none⟩,
 ⟨(some 7), none, .mv false (.c (.bool false)), none⟩] (some [6, 7])) (
 .ret)) (
 .skip))) (
.seq (.seq (.reg false [
 ⟨(some 25), none, .mv false (.t 0), none⟩,
 ⟨(some 26), none, .bin .eql .i64 (.t 25) (.c (.int .i64 10)), none⟩] (some [0, 4, 5, 6, 26])) (
.ite (.t 26) (
 .seq (.reg false [
 ⟨(some 27), none, .fld 0 (.t 4), none⟩,
 ⟨(some 28), none, .ld none (.t 27), none⟩,
 ⟨(some 29), none, .fld 0 (.t 5), none⟩,
 ⟨(some 30), none, .ld none (.t 29), none⟩,
 ⟨(some 31), none, .bin .sub .i64 (.t 28) (.t 30), none⟩,
 ⟨(some 32), none, .fld 1 (.t 4), none⟩,
 ⟨(some 33), none, .ld none (.t 32), none⟩,
 ⟨(some 34), none, .fld 1 (.t 5), none⟩,
 ⟨(some 35), none, .ld none (.t 34), none⟩,
 ⟨(some 36), none, .bin .sub .i64 (.t 33) (.t 35), none⟩,
 ⟨(some 37), none, .bld [(.int .i64 0), (.int .i64 0)] [(0, none, (.t 31)), (1, none, (.t 36))], none⟩,
 ⟨none, none, .st (some 2) (.t 6) (.t 37), none⟩,
 ⟨(some 7), none, .mv false (.c (.bool true)), none⟩] (some [6, 7])) (
 .ret)) (
 .skip))) (
.seq (.reg false [
 ⟨(some 38), none, .mv false (.t 0), none⟩,
 ⟨(some 39), none, .ixa 10 2 (.c (.glob 0 0)) (.t 38), none⟩,
 ⟨(some 40), none, .ld (some 2) (.t 39), none⟩,
 ⟨(some 8), none, .alloc [(.int .i64 0), (.int .i64 0)], none⟩,
 ⟨none, none, .st (some 2) (.t 8) (.t 40), none⟩] (some [4, 5, 6, 8])) (
.seq (.reg true [
 ⟨(some 41), none, .fld 2 (.t 5), none⟩,
 ⟨(some 42), none, .ld none (.t 41), none⟩,
 ⟨(some 43), none, .fld 2 (.t 4), none⟩,
 ⟨(some 44), none, .ld none (.t 43), none⟩,
 ⟨(some 45), none, .bin .sub .i64 (.t 42) (.t 44), none⟩,
 ⟨(some 46), none, .ixa 2 1 (.t 8) (.c (.int .i64 0)), none⟩,
 ⟨(some 47), none, .ld none (.t 46), none⟩,
 ⟨(some 48), none, .call false 68 [(.t 45), (.t 47)], none⟩,
 ⟨(some 49), none, .fld 3 (.t 5), none⟩,
 ⟨(some 50), none, .ld none (.t 49), none⟩,
 ⟨(some 51), none, .fld 3 (.t 4), none⟩,
 ⟨(some 52), none, .ld none (.t 51), none⟩,
 ⟨(some 53), none, .bin .sub .i64 (.t 50) (.t 52), none⟩,
 ⟨(some 54), none, .ixa 2 1 (.t 8) (.c (.int .i64 1)), none⟩,
 ⟨(some 55), none, .ld none (.t 54), none⟩,
 ⟨(some 56), none, .call false 68 [(.t 53), (.t 55)], none⟩,
 ⟨(some 57), none, .bld [(.int .i64 0), (.int .i64 0)] [(0, none, (.t 48)), (1, none, (.t 56))], none⟩,
 ⟨none, none, .st (some 2) (.t 6) (.t 57), none⟩,
 ⟨(some 7), none, .mv false (.c (.bool true)), none⟩] (some [6, 7])) (
.ret)))))
set_option maxRecDepth 1000000 in
theorem comp_gravity_Shift : (Tryd.f44.body.bind fun code => compC Tryd.prog Tryd.f44.ntmps code c_gravity_Shift) = some c_gravity_Shift.bare := by kernel_rfl
def r_gravity_Shift : List R := [.cell 6 (some 2), .t 7]
theorem spo_gravity_Shift {ds : List D} {d : D} (hn : Nat.ble ds.length 58 = true) (h : run TSpC gtab 0 c_gravity_Shift (retK r_gravity_Shift (· = d)) ⟨env0 0 ds, []⟩) : TSp 44 ds d := Sp_of mixed c_gravity_Shift r_gravity_Shift (fn := Tryd.f44) (by kernel_rfl) (by kernel_rfl) comp_gravity_Shift (by kernel_rfl) hn h
/-- glazier/gravity.stay -/
def c_gravity_stay : C := .seq (.reg false [
 ⟨(some 6), none, .mv false (.c (.int .i64 0)), none⟩,
 ⟨(some 7), none, .mv false (.c (.int .i64 0)), none⟩] (some [0, 1, 2])) (
.seq (.reg false [
 ⟨(some 9), none, .mv false (.t 2), none⟩,
 ⟨(some 10), none, .mx (.c (.int .i64 0)) (.t 9), none⟩,
 ⟨(some 8), none, .mv false (.t 10), none⟩] (some [0, 1, 2, 8])) (
.seq (.reg false [
 ⟨(some 11), none, .mv false (.t 8), none⟩,
 ⟨(some 12), none, .mv false (.t 1), none⟩,
 ⟨(some 13), none, .mv false (.t 0), none⟩,
 ⟨(some 14), none, .mv false (.t 2), none⟩,
 ⟨(some 15), none, .bin .add .i64 (.t 13) (.t 14), none⟩,
 ⟨(some 16), none, .mn (.t 12) (.t 15), none⟩,
 ⟨(some 17), none, .mv false (.t 8), none⟩,
 ⟨(some 18), none, .bin .sub .i64 (.t 16) (.t 17), none⟩,
 ⟨(some 6), none, .mv false (.t 11), none⟩,
 ⟨(some 7), none, .mv false (.t 18), none⟩] (some [6, 7])) (
.ret)))
set_option maxRecDepth 1000000 in
theorem comp_gravity_stay : (Tryd.f45.body.bind fun code => compC Tryd.prog Tryd.f45.ntmps code c_gravity_stay) = some c_gravity_stay.bare := by kernel_rfl
def r_gravity_stay : List R := [.t 6, .t 7]
theorem spo_gravity_stay {ds : List D} {d : D} (hn : Nat.ble ds.length 19 = true) (h : run TSpC gtab 0 c_gravity_stay (retK r_gravity_stay (· = d)) ⟨env0 0 ds, []⟩) : TSp 45 ds d := Sp_of mixed c_gravity_stay r_gravity_stay (fn := Tryd.f45) (by kernel_rfl) (by kernel_rfl) comp_gravity_stay (by kernel_rfl) hn h
/-- glazier/region.moved -/
def c_region_moved : C := .seq (.reg false [
 ⟨(some 6), none, .mv false (.c (.int .i64 0)), none⟩,
 ⟨(some 7), none, .mv false (.c (.int .i64 0)), none⟩] (some [0, 1, 2])) (
.seq (.reg false [
 ⟨(some 10), none, .mv false (.t 0), none⟩,
 ⟨(some 11), none, .mv false (.t 2), none⟩,
 ⟨(some 12), none, .bin .add .i64 (.t 10) (.t 11), none⟩,
 ⟨(some 13), none, .mx (.t 12) (.c (.int .i64 (-1048576))), none⟩,
 ⟨(some 8), none, .mv false (.t 13), none⟩] (some [0, 1, 2, 8])) (
.seq (.reg false [
 ⟨(some 14), none, .mv false (.t 0), none⟩,
 ⟨(some 15), none, .mv false (.t 2), none⟩,
 ⟨(some 16), none, .bin .add .i64 (.t 14) (.t 15), none⟩,
 ⟨(some 17), none, .mv false (.t 1), none⟩,
 ⟨(some 18), none, .bin .add .i64 (.t 16) (.t 17), none⟩,
 ⟨(some 19), none, .mn (.t 18) (.c (.int .i64 1048576)), none⟩,
 ⟨(some 9), none, .mv false (.t 19), none⟩] (some [8, 9])) (
.seq (.reg false [
 ⟨(some 20), none, .mv false (.t 8), none⟩,
 ⟨(some 21), none, .mv false (.t 9), none⟩,
 ⟨(some 22), none, .mv false (.t 8), none⟩,
 ⟨(some 23), none, .bin .sub .i64 (.t 21) (.t 22), none⟩,
 ⟨(some 6), none, .mv false (.t 20), none⟩,
 ⟨(some 7), none, .mv false (.t 23), none⟩] (some [6, 7])) (
.ret))))
set_option maxRecDepth 1000000 in
theorem comp_region_moved : (Tryd.f46.body.bind fun code => compC Tryd.prog Tryd.f46.ntmps code c_region_moved) = some c_region_moved.bare := by kernel_rfl
def r_region_moved : List R := [.t 6, .t 7]
theorem spo_region_moved {ds : List D} {d : D} (hn : Nat.ble ds.length 24 = true) (h : run TSpC gtab 0 c_region_moved (retK r_region_moved (· = d)) ⟨env0 0 ds, []⟩) : TSp 46 ds d := Sp_of mixed c_region_moved r_region_moved (fn := Tryd.f46) (by kernel_rfl) (by kernel_rfl) comp_region_moved (by kernel_rfl) hn h
/-- glazier/region.Meet$1 -/
def c_region_Meet_1 : C := .seq (.reg false [
 ⟨(some 4), none, .mv false (.c (.bool false)), none⟩] (some [0, 1])) (
.seq (.reg false [
 ⟨(some 5), none, .mv false (.t 0), none⟩,
 ⟨(some 6), none, .mv false (.t 5), none⟩,
 ⟨(some 7), some (6, true), .mv false (.t 1), none⟩,
 ⟨(some 8), none, .pick (.t 6) (.t 7) (.c (.bool false)), none⟩,
 ⟨(some 4), none, .mv false (.t 8), none⟩] (some [4])) (
.ret))
set_option maxRecDepth 1000000 in
theorem comp_region_Meet_1 : (Tryd.f47.body.bind fun code => compC Tryd.prog Tryd.f47.ntmps code c_region_Meet_1) = some c_region_Meet_1.bare := by kernel_rfl
def r_region_Meet_1 : List R := [.t 4]
theorem spo_region_Meet_1 {ds : List D} {d : D} (hn : Nat.ble ds.length 9 = true) (h : run TSpC gtab 0 c_region_Meet_1 (retK r_region_Meet_1 (· = d)) ⟨env0 0 ds, []⟩) : TSp 47 ds d := Sp_of mixed c_region_Meet_1 r_region_Meet_1 (fn := Tryd.f47) (by kernel_rfl) (by kernel_rfl) comp_region_Meet_1 (by kernel_rfl) hn h
/-- glazier/band.fits -/
def c_band_fits : C := .seq (.reg false [
 ⟨(some 4), none, .mv false (.c (.bool false)), none⟩] (some [0, 1])) (
.seq (.reg false [
 ⟨(some 5), none, .mv false (.t 0), none⟩,
 ⟨(some 6), none, .bin .geq .i64 (.t 5) (.c (.int .i64 (-1048576))), none⟩,
 ⟨(some 7), none, .mv false (.t 6), none⟩,
 ⟨(some 8), some (7, true), .mv false (.t 1), none⟩,
 ⟨(some 9), some (7, true), .bin .gtr .i64 (.t 8) (.c (.int .i64 0)), none⟩,
 ⟨(some 10), none, .pick (.t 7) (.t 9) (.c (.bool false)), none⟩,
 ⟨(some 11), none, .mv false (.t 10), none⟩,
 ⟨(some 12), some (11, true), .mv false (.t 1), none⟩,
 ⟨(some 13), some (11, true), .mv false (.t 0), none⟩,
 ⟨(some 14), some (11, true), .bin .sub .i64 (.c (.int .i64 1048576)) (.t 13), none⟩,
 ⟨(some 15), some (11, true), .bin .leq .i64 (.t 12) (.t 14), none⟩,
 ⟨(some 16), none, .pick (.t 11) (.t 15) (.c (.bool false)), none⟩,
 ⟨(some 4), none, .mv false (.t 16), none⟩] (some [4])) (
.ret))
set_option maxRecDepth 1000000 in
theorem comp_band_fits : (Tryd.f48.body.bind fun code => compC Tryd.prog Tryd.f48.ntmps code c_band_fits) = some c_band_fits.bare := by kernel_rfl
def r_band_fits : List R := [.t 4]
theorem spo_band_fits {ds : List D} {d : D} (hn : Nat.ble ds.length 17 = true) (h : run TSpC gtab 0 c_band_fits (retK r_band_fits (· = d)) ⟨env0 0 ds, []⟩) : TSp 48 ds d := Sp_of mixed c_band_fits r_band_fits (fn := Tryd.f48) (by kernel_rfl) (by kernel_rfl) comp_band_fits (by kernel_rfl) hn h
/-- slices.IndexFunc[[]glazier/api.Rect,glazier/api.Rect] -/
def c_slices_IndexFunc_api_Rect_api_Rect : C := .seq (.reg false [
 ⟨(some 4), none, .mv false (.c (.int .i64 0)), none⟩] (some [0, 1])) (
.seq (.seq (.reg false [
 ⟨(some 6), none, .mv false (.t 0), none⟩,
 ⟨(some 7), none, .len false (.t 6), none⟩,
 ⟨(some 8), none, .mv false (.c (.int .i64 0)), none⟩] (some [0, 1, 7, 8])) (
.blk 0 (
 .loop (
 .seq (.reg false [
 ⟨(some 9), none, .bin .lss .i64 (.t 8) (.t 7), none⟩] (some [0, 1, 7, 8, 9])) (
 .seq (.ite (.t 9) (
 .skip) (
 .exit 0)) (
 .seq (.blk 1 (
 .seq (.reg false [
 ⟨(some 10), none, .mv false (.t 8), none⟩,
 ⟨(some 5), none, .mv false (.t 10), none⟩] (some [0, 1, 5, 7, 8])) (
 .seq (.reg false [
 ⟨(some 11), none, .mv false (.t 1), none⟩,
 ⟨(some 12), none, .mv false (.t 0), none⟩,
 ⟨(some 13), none, .mv false (.t 5), none⟩,
 ⟨(some 14), none, .ixs 4 (.t 12) (.t 13), none⟩,
 ⟨(some 15), none, .ld (some 4) (.t 14), none⟩,
 ⟨(some 16), none, .callv false (.t 11) [(.t 15)], none⟩] (some [0, 1, 5, 7, 8, 16])) (
 .ite (.t 16) (
 .seq (.reg false [
 ⟨(some 17), none, .mv false (.t 5), none⟩,
 ⟨(some 4), none, .mv false (.t 17), none⟩] (some [4])) (
 .ret)) (
 .skip))))) (
 .reg false [
 ⟨(some 18), none, .bin .add .i64 (.t 8) (.c (.int .i64 1)), none⟩,
 ⟨(some 8), none, .mv false (.t 18), none⟩] (some [0, 1, 7, 8])))))))) (
.seq (.reg false [
 ⟨(some 4), none, .mv false (.c (.int .i64 (-1))), none⟩] (some [4])) (
.ret)))
set_option maxRecDepth 1000000 in
theorem comp_slices_IndexFunc_api_Rect_api_Rect : (Tryd.f54.body.bind fun code => compC Tryd.prog Tryd.f54.ntmps code c_slices_IndexFunc_api_Rect_api_Rect) = some c_slices_IndexFunc_api_Rect_api_Rect.bare := by kernel_rfl
def r_slices_IndexFunc_api_Rect_api_Rect : List R := [.t 4]
theorem spm_slices_IndexFunc_api_Rect_api_Rect {ds : List D} {d : D} {bx bx' : List Ent} (hn : Nat.ble ds.length 19 = true) (h : run TSpC gtab (sizeE bx) c_slices_IndexFunc_api_Rect_api_Rect (retG r_slices_IndexFunc_api_Rect_api_Rect (fun d1 bx1 => Rt (sizeE bx) bx1 d1 d bx')) ⟨env0 0 ds, bx⟩) : TSpM 54 ds bx d bx' := SpM_of mixed c_slices_IndexFunc_api_Rect_api_Rect r_slices_IndexFunc_api_Rect_api_Rect (fn := Tryd.f54) (by kernel_rfl) (by kernel_rfl) comp_slices_IndexFunc_api_Rect_api_Rect (by kernel_rfl) hn h
/-- glazier/band.spans$1 -/
def c_band_spans_1 : C := .seq (.reg false [
 ⟨(some 3), none, .mv false (.c (.int .i64 0)), none⟩] (some [0, 1, 3])) (
.blk 0 (
 .loop (
 .seq (.seq (.reg false [
 ⟨(some 5), none, .mv false (.t 3), none⟩,
 ⟨(some 6), none, .ld none (.t 1), none⟩,
 ⟨(some 7), none, .len false (.t 6), none⟩,
 ⟨(some 8), none, .bin .lss .i64 (.t 5) (.t 7), none⟩] (some [0, 1, 3, 8])) (
 .ite (.t 8) (
 .skip) (
 .exit 0))) (
 .blk 1 (
 .seq (.reg true [
 ⟨(some 9), none, .ld none (.t 1), (some [7])⟩,
 ⟨(some 10), none, .mv false (.t 3), none⟩,
 ⟨(some 11), none, .ixs 4 (.t 9) (.t 10), (some [4])⟩,
 ⟨(some 12), none, .fld 0 (.t 11), none⟩,
 ⟨(some 13), none, .ld none (.t 12), (some [4])⟩,
 ⟨(some 14), none, .ld none (.t 1), (some [7])⟩,
 ⟨(some 15), none, .mv false (.t 3), none⟩,
 ⟨(some 16), none, .ixs 4 (.t 14) (.t 15), (some [4])⟩,
 ⟨(some 17), none, .fld 0 (.t 16), none⟩,
 ⟨(some 18), none, .ld none (.t 17), (some [4])⟩,
 ⟨(some 19), none, .ld none (.t 1), (some [7])⟩,
 ⟨(some 20), none, .mv false (.t 3), none⟩,
 ⟨(some 21), none, .ixs 4 (.t 19) (.t 20), (some [4])⟩,
 ⟨(some 22), none, .fld 2 (.t 21), none⟩,
 ⟨(some 23), none, .ld none (.t 22), (some [4])⟩,
 ⟨(some 24), none, .bin .add .i64 (.t 18) (.t 23), none⟩,
 ⟨(some 25), none, .bld [(.int .i64 0), (.int .i64 0)] [(0, none, (.t 13)), (1, none, (.t 24))], none⟩,
 ⟨(some 4), none, .alloc [(.int .i64 0), (.int .i64 0)], (some [9])⟩,
 ⟨none, none, .st (some 2) (.t 4) (.t 25), (some [9])⟩] (some [0, 1, 3, 4])) (
 .seq (.seq (.reg false [
 ⟨(some 26), none, .mv false (.t 3), none⟩,
 ⟨(some 27), none, .bin .add .i64 (.t 26) (.c (.int .i64 1)), none⟩,
 ⟨(some 3), none, .mv false (.t 27), none⟩] (some [0, 1, 3, 4])) (
 .blk 2 (
 .loop (
 .seq (.seq (.reg true [
 ⟨(some 28), none, .mv false (.t 3), none⟩,
 ⟨(some 29), none, .ld none (.t 1), none⟩,
 ⟨(some 30), none, .len false (.t 29), none⟩,
 ⟨(some 31), none, .bin .lss .i64 (.t 28) (.t 30), none⟩,
 ⟨(some 32), none, .mv false (.t 31), none⟩,
 ⟨(some 33), some (32, true), .ld none (.t 1), none⟩,
 ⟨(some 34), some (32, true), .mv false (.t 3), none⟩,
 ⟨(some 35), some (32, true), .ixs 4 (.t 33) (.t 34), none⟩,
 ⟨(some 36), some (32, true), .fld 0 (.t 35), none⟩,
 ⟨(some 37), some (32, true), .ld none (.t 36), none⟩,
 ⟨(some 38), some (32, true), .fld 1 (.t 4), none⟩,
 ⟨(some 39), some (32, true), .ld none (.t 38), none⟩,
 ⟨(some 40), some (32, true), .bin .leq .i64 (.t 37) (.t 39), none⟩,
 ⟨(some 41), none, .pick (.t 32) (.t 40) (.c (.bool false)), none⟩] (some [0, 1, 3, 4, 41])) (
 .ite (.t 41) (
 .skip) (
 .exit 2))) (
 .seq (.blk 3 (
 .reg true [
 ⟨(some 44), none, .fld 1 (.t 4), none⟩,
 ⟨(some 45), none, .ld none (.t 44), none⟩,
 ⟨(some 46), none, .ld none (.t 1), none⟩,
 ⟨(some 47), none, .mv false (.t 3), none⟩,
 ⟨(some 48), none, .ixs 4 (.t 46) (.t 47), none⟩,
 ⟨(some 49), none, .fld 0 (.t 48), none⟩,
 ⟨(some 50), none, .ld none (.t 49), none⟩,
 ⟨(some 51), none, .ld none (.t 1), none⟩,
 ⟨(some 52), none, .mv false (.t 3), none⟩,
 ⟨(some 53), none, .ixs 4 (.t 51) (.t 52), none⟩,
 ⟨(some 54), none, .fld 2 (.t 53), none⟩,
 ⟨(some 55), none, .ld none (.t 54), none⟩,
 ⟨(some 56), none, .bin .add .i64 (.t 50) (.t 55), none⟩,
 ⟨(some 57), none, .mx (.t 45) (.t 56), none⟩,
 ⟨(some 58), none, .fld 1 (.t 4), none⟩,
 ⟨none, none, .st none (.t 58) (.t 57), none⟩] (some [0, 1, 3, 4]))) (
 .reg false [
 ⟨(some 42), none, .mv false (.t 3), none⟩,
 ⟨(some 43), none, .bin .add .i64 (.t 42) (.c (.int .i64 1)), none⟩,
 ⟨(some 3), none, .mv false (.t 43), none⟩] (some [0, 1, 3, 4]))))))) (
 .seq (.reg false [
 ⟨(some 59), none, .mv false (.t 0), none⟩,
 ⟨(some 60), none, .ld (some 2) (.t 4), none⟩,
 ⟨(some 61), none, .prm false true (.yld [62]) [(.t 59), (.t 60)], none⟩,
 ⟨(some 62), none, .not (.t 61), none⟩] (some [0, 1, 3, 62])) (
 .ite (.t 62) (
 .ret) (
 .skip)))))))))
set_option maxRecDepth 1000000 in
theorem comp_band_spans_1 : (Tryd.f55.body.bind fun code => compC Tryd.prog Tryd.f55.ntmps code c_band_spans_1) = some c_band_spans_1.bare := by kernel_rfl
def r_band_spans_1 : List R := []
/-- slices.EqualFunc[[]glazier/api.Rect,[]glazier/api.Rect,glazier/api.Rect,glazier/api.Rect] -/
def c_slices_EqualFunc_api_Rect_api_Rect_api_Rect_api_Rect : C := .seq (.reg false [
 ⟨(some 6), none, .mv false (.c (.bool false)), none⟩] (some [0, 1, 2])) (
.seq (.seq (.reg false [
 ⟨(some 10), none, .mv false (.t 0), none⟩,
 ⟨(some 11), none, .len false (.t 10), none⟩,
 ⟨(some 12), none, .mv false (.t 1), none⟩,
 ⟨(some 13), none, .len false (.t 12), none⟩,
 ⟨(some 14), none, .bin .neq .i64 (.t 11) (.t 13), none⟩] (some [0, 1, 2, 14])) (
.ite (.t 14) (
 .seq (.reg false [
 ⟨(some 6), none, .mv false (.c (.bool false)), none⟩] (some [6])) (
 .ret)) (
 .skip))) (
.seq (.seq (.reg false [
 ⟨(some 15), none, .mv false (.t 0), none⟩,
 ⟨(some 16), none, .len false (.t 15), none⟩,
 ⟨(some 17), none, .mv false (.c (.int .i64 0)), none⟩] (some [1, 2, 15, 16, 17])) (
.blk 0 (
 .loop (
 .seq (.reg false [
 ⟨(some 18), none, .bin .lss .i64 (.t 17) (.t 16), none⟩] (some [1, 2, 15, 16, 17, 18])) (
 .seq (.ite (.t 18) (
 .skip) (
 .exit 0)) (
 .seq (.blk 1 (
 .seq (.reg false [
 ⟨(some 19), none, .mv false (.t 17), none⟩,
 ⟨(some 20), none, .ixs 4 (.t 15) (.t 17), none⟩,
 ⟨(some 21), none, .ld (some 4) (.t 20), none⟩,
 ⟨(some 8), none, .alloc [(.int .i64 0), (.int .i64 0), (.int .i64 0), (.int .i64 0)], none⟩,
 ⟨(some 7), none, .mv false (.t 19), none⟩,
 ⟨none, none, .st (some 4) (.t 8) (.t 21), none⟩] (some [1, 2, 7, 8, 15, 16, 17])) (
 .seq (.reg false [
 ⟨(some 22), none, .mv false (.t 1), none⟩,
 ⟨(some 23), none, .mv false (.t 7), none⟩,
 ⟨(some 24), none, .ixs 4 (.t 22) (.t 23), none⟩,
 ⟨(some 25), none, .ld (some 4) (.t 24), none⟩,
 ⟨(some 9), none, .alloc [(.int .i64 0), (.int .i64 0), (.int .i64 0), (.int .i64 0)], none⟩,
 ⟨none, none, .st (some 4) (.t 9) (.t 25), none⟩] (some [1, 2, 8, 9, 15, 16, 17])) (
 .seq (.reg false [
 ⟨(some 26), none, .mv false (.t 2), none⟩,
 ⟨(some 27), none, .ld (some 4) (.t 8), none⟩,
 ⟨(some 28), none, .ld (some 4) (.t 9), none⟩,
 ⟨(some 29), none, .callv false (.t 26) [(.t 27), (.t 28)], none⟩,
 ⟨(some 30), none, .not (.t 29), none⟩] (some [1, 2, 15, 16, 17, 30])) (
 .ite (.t 30) (
 .seq (.reg false [
 ⟨(some 6), none, .mv false (.c (.bool false)), none⟩] (some [6])) (
 .ret)) (
 .skip)))))) (
 .reg false [
 ⟨(some 31), none, .bin .add .i64 (.t 17) (.c (.int .i64 1)), none⟩,
 ⟨(some 17), none, .mv false (.t 31), none⟩] (some [1, 2, 15, 16, 17])))))))) (
.seq (.reg false [
 ⟨(some 6), none, .mv false (.c (.bool true)), none⟩] (some [6])) (
.ret))))
set_option maxRecDepth 1000000 in
theorem comp_slices_EqualFunc_api_Rect_api_Rect_api_Rect_api_Rect : (Tryd.f56.body.bind fun code => compC Tryd.prog Tryd.f56.ntmps code c_slices_EqualFunc_api_Rect_api_Rect_api_Rect_api_Rect) = some c_slices_EqualFunc_api_Rect_api_Rect_api_Rect_api_Rect.bare := by kernel_rfl
def r_slices_EqualFunc_api_Rect_api_Rect_api_Rect_api_Rect : List R := [.t 6]
theorem spo_slices_EqualFunc_api_Rect_api_Rect_api_Rect_api_Rect {ds : List D} {d : D} (hn : Nat.ble ds.length 32 = true) (h : run TSpC gtab 0 c_slices_EqualFunc_api_Rect_api_Rect_api_Rect_api_Rect (retK r_slices_EqualFunc_api_Rect_api_Rect_api_Rect_api_Rect (· = d)) ⟨env0 0 ds, []⟩) : TSp 56 ds d := Sp_of mixed c_slices_EqualFunc_api_Rect_api_Rect_api_Rect_api_Rect r_slices_EqualFunc_api_Rect_api_Rect_api_Rect_api_Rect (fn := Tryd.f56) (by kernel_rfl) (by kernel_rfl) comp_slices_EqualFunc_api_Rect_api_Rect_api_Rect_api_Rect (by kernel_rfl) hn h
/-- glazier/band.alike$1 -/
def c_band_alike_1 : C := .seq (.reg false [
 ⟨(some 2), none, .box true (.t 0), none⟩,
 ⟨(some 3), none, .box true (.t 1), none⟩,
 ⟨(some 4), none, .mv false (.c (.bool false)), none⟩] (some [2, 3])) (
.seq (.reg false [
 ⟨(some 5), none, .fld 0 (.t 2), none⟩,
 ⟨(some 6), none, .ld none (.t 5), none⟩,
 ⟨(some 7), none, .fld 0 (.t 3), none⟩,
 ⟨(some 8), none, .ld none (.t 7), none⟩,
 ⟨(some 9), none, .bin .eql .i64 (.t 6) (.t 8), none⟩,
 ⟨(some 10), none, .mv false (.t 9), none⟩,
 ⟨(some 11), some (10, true), .fld 2 (.t 2), none⟩,
 ⟨(some 12), some (10, true), .ld none (.t 11), none⟩,
 ⟨(some 13), some (10, true), .fld 2 (.t 3), none⟩,
 ⟨(some 14), some (10, true), .ld none (.t 13), none⟩,
 ⟨(some 15), some (10, true), .bin .eql .i64 (.t 12) (.t 14), none⟩,
 ⟨(some 16), none, .pick (.t 10) (.t 15) (.c (.bool false)), none⟩,
 ⟨(some 17), none, .mv false (.t 16), none⟩,
 ⟨(some 18), some (17, true), .fld 1 (.t 2), none⟩,
 ⟨(some 19), some (17, true), .ld none (.t 18), none⟩,
 ⟨(some 20), some (17, true), .fld 3 (.t 2), none⟩,
 ⟨(some 21), some (17, true), .ld none (.t 20), none⟩,
 ⟨(some 22), some (17, true), .bin .add .i64 (.t 19) (.t 21), none⟩,
 ⟨(some 23), some (17, true), .fld 1 (.t 3), none⟩,
 ⟨(some 24), some (17, true), .ld none (.t 23), none⟩,
 ⟨(some 25), some (17, true), .bin .eql .i64 (.t 22) (.t 24), none⟩,
 ⟨(some 26), none, .pick (.t 17) (.t 25) (.c (.bool false)), none⟩,
 ⟨(some 4), none, .mv false (.t 26), none⟩] (some [4])) (
.ret))
set_option maxRecDepth 1000000 in
theorem comp_band_alike_1 : (Tryd.f57.body.bind fun code => compC Tryd.prog Tryd.f57.ntmps code c_band_alike_1) = some c_band_alike_1.bare := by kernel_rfl
def r_band_alike_1 : List R := [.t 4]
theorem spo_band_alike_1 {ds : List D} {d : D} (hn : Nat.ble ds.length 27 = true) (h : run TSpC gtab 0 c_band_alike_1 (retK r_band_alike_1 (· = d)) ⟨env0 0 ds, []⟩) : TSp 57 ds d := Sp_of mixed c_band_alike_1 r_band_alike_1 (fn := Tryd.f57) (by kernel_rfl) (by kernel_rfl) comp_band_alike_1 (by kernel_rfl) hn h
/-- slices.Clone[[]glazier/api.Rect,glazier/api.Rect] -/
def c_slices_Clone_api_Rect_api_Rect : C := .seq (.reg false [
 ⟨(some 2), none, .nilS 25 4, none⟩] (some [0])) (
.seq (.seq (.reg false [
 ⟨(some 3), none, .mv false (.t 0), none⟩,
 ⟨(some 4), none, .prm true false (.eqn false 22) [(.t 3)], none⟩] (some [0, 4])) (
.ite (.t 4) (
 .seq (.reg false [
 ⟨(some 2), none, .nilS 25 4, none⟩] (some [2])) (
 .ret)) (
 .skip))) (
.seq (.reg false [
 ⟨(some 5), none, .bsl (some false) 25 4 (some 4) [], none⟩,
 ⟨(some 6), none, .mv false (.t 0), none⟩,
 ⟨(some 7), none, .app 25 4 32 (.t 5) (.t 6), none⟩,
 ⟨(some 2), none, .mv false (.t 7), none⟩] (some [2])) (
.ret)))
set_option maxRecDepth 1000000 in
theorem comp_slices_Clone_api_Rect_api_Rect : (Tryd.f58.body.bind fun code => compC Tryd.prog Tryd.f58.ntmps code c_slices_Clone_api_Rect_api_Rect) = some c_slices_Clone_api_Rect_api_Rect.bare := by kernel_rfl
def r_slices_Clone_api_Rect_api_Rect : List R := [.t 2]
theorem spo_slices_Clone_api_Rect_api_Rect {ds : List D} {d : D} (hn : Nat.ble ds.length 8 = true) (h : run TSpC gtab 0 c_slices_Clone_api_Rect_api_Rect (retK r_slices_Clone_api_Rect_api_Rect (· = d)) ⟨env0 0 ds, []⟩) : TSp 58 ds d := Sp_of mixed c_slices_Clone_api_Rect_api_Rect r_slices_Clone_api_Rect_api_Rect (fn := Tryd.f58) (by kernel_rfl) (by kernel_rfl) comp_slices_Clone_api_Rect_api_Rect (by kernel_rfl) hn h
theorem spm_slices_Clone_api_Rect_api_Rect {ds : List D} {d : D} {bx bx' : List Ent} (hn : Nat.ble ds.length 8 = true) (h : run TSpC gtab (sizeE bx) c_slices_Clone_api_Rect_api_Rect (retG r_slices_Clone_api_Rect_api_Rect (fun d1 bx1 => Rt (sizeE bx) bx1 d1 d bx')) ⟨env0 0 ds, bx⟩) : TSpM 58 ds bx d bx' := SpM_of mixed c_slices_Clone_api_Rect_api_Rect r_slices_Clone_api_Rect_api_Rect (fn := Tryd.f58) (by kernel_rfl) (by kernel_rfl) comp_slices_Clone_api_Rect_api_Rect (by kernel_rfl) hn h
/-- glazier/shape.ones$1 -/
def c_shape_ones_1 : C := .seq (.reg false [
 ⟨(some 4), none, .mv false (.c (.int .i64 0)), none⟩] (some [0, 1, 2, 4])) (
.blk 0 (
 .loop (
 .seq (.seq (.reg false [
 ⟨(some 6), none, .mv false (.t 4), none⟩,
 ⟨(some 7), none, .ld none (.t 1), none⟩,
 ⟨(some 8), none, .len true (.t 7), none⟩,
 ⟨(some 9), none, .bin .lss .i64 (.t 6) (.t 8), none⟩] (some [0, 1, 2, 4, 9])) (
 .ite (.t 9) (
 .skip) (
 .exit 0))) (
 .seq (.blk 1 (
 .seq (.reg false [
 ⟨(some 5), none, .mv false (.c (.int .i64 0)), none⟩] (some [0, 1, 2, 4, 5])) (
 .blk 2 (
 .loop (
 .seq (.seq (.reg false [
 ⟨(some 12), none, .mv false (.t 5), none⟩,
 ⟨(some 13), none, .bin .lss .i64 (.t 12) (.c (.int .i64 8)), none⟩] (some [0, 1, 2, 4, 5, 13])) (
 .ite (.t 13) (
 .skip) (
 .exit 2))) (
 .seq (.blk 3 (
 .seq (.reg true [
 ⟨(some 16), none, .ld none (.t 1), none⟩,
 ⟨(some 17), none, .mv false (.t 4), none⟩,
 ⟨(some 18), none, .sidx (.t 16) (.t 17), none⟩,
 ⟨(some 19), none, .mv false (.t 5), none⟩,
 ⟨(some 20), none, .bin .shr .u8 (.t 18) (.t 19), none⟩,
 ⟨(some 21), none, .bin .and .u8 (.t 20) (.c (.int .u8 1)), none⟩,
 ⟨(some 22), none, .bin .eql .u8 (.t 21) (.c (.int .u8 1)), none⟩,
 ⟨(some 23), none, .mv false (.t 22), none⟩,
 ⟨(some 24), some (23, true), .mv false (.t 0), none⟩,
 ⟨(some 25), some (23, true), .mv false (.t 4), none⟩,
 ⟨(some 26), some (23, true), .ld none (.t 2), none⟩,
 ⟨(some 27), some (23, true), .bin .rem .i64 (.t 25) (.t 26), none⟩,
 ⟨(some 28), some (23, true), .bin .mul .i64 (.t 27) (.c (.int .i64 8)), none⟩,
 ⟨(some 29), some (23, true), .mv false (.t 5), none⟩,
 ⟨(some 30), some (23, true), .bin .add .i64 (.t 28) (.t 29), none⟩,
 ⟨(some 31), some (23, true), .mv false (.t 4), none⟩,
 ⟨(some 32), some (23, true), .ld none (.t 2), none⟩,
 ⟨(some 33), some (23, true), .bin .quo .i64 (.t 31) (.t 32), none⟩,
 ⟨(some 34), some (23, true), .prm false true (.yld [3, 3]) [(.t 24), (.t 30), (.t 33)], none⟩,
 ⟨(some 35), some (23, true), .not (.t 34), none⟩,
 ⟨(some 36), none, .pick (.t 23) (.t 35) (.c (.bool false)), none⟩] (some [0, 1, 2, 4, 5, 36])) (
 .ite (.t 36) (
 .ret) (
 .skip)))) (
 .reg false [
 ⟨(some 14), none, .mv false (.t 5), none⟩,
 ⟨(some 15), none, .bin .add .i64 (.t 14) (.c (.int .i64 1)), none⟩,
 ⟨(some 5), none, .mv false (.t 15), none⟩] (some [0, 1, 2, 4, 5])))))))) (
 .reg false [
 ⟨(some 10), none, .mv false (.t 4), none⟩,
 ⟨(some 11), none, .bin .add .i64 (.t 10) (.c (.int .i64 1)), none⟩,
 ⟨(some 4), none, .mv false (.t 11), none⟩] (some [0, 1, 2, 4]))))))
set_option maxRecDepth 1000000 in
theorem comp_shape_ones_1 : (Tryd.f59.body.bind fun code => compC Tryd.prog Tryd.f59.ntmps code c_shape_ones_1) = some c_shape_ones_1.bare := by kernel_rfl
def r_shape_ones_1 : List R := []
/-- glazier/shape.turn -/
def c_shape_turn : C := .seq (.reg false [
 ⟨(some 1), none, .box true (.t 0), none⟩,
 ⟨(some 2), none, .alloc [(.ls 4 [])], none⟩] (some [1, 2])) (
.seq (.reg false [
 ⟨(some 6), none, .ld (some 1) (.t 1), none⟩,
 ⟨(some 7), none, .call true 34 [(.t 6)], none⟩,
 ⟨(some 3), none, .mv false (.t 7), none⟩] (some [2, 3])) (
.seq (.seq (.reg false [
 ⟨(some 8), none, .mv false (.t 3), none⟩,
 ⟨(some 9), none, .len false (.t 8), none⟩,
 ⟨(some 10), none, .mv false (.c (.int .i64 0)), none⟩] (some [2, 3, 8, 9, 10])) (
.blk 0 (
 .loop (
 .seq (.reg false [
 ⟨(some 11), none, .bin .lss .i64 (.t 10) (.t 9), none⟩] (some [2, 3, 8, 9, 10, 11])) (
 .seq (.ite (.t 11) (
 .skip) (
 .exit 0)) (
 .seq (.blk 1 (
 .seq (.reg false [
 ⟨(some 12), none, .mv false (.t 10), none⟩,
 ⟨(some 13), none, .ixs 4 (.t 8) (.t 10), none⟩,
 ⟨(some 14), none, .ld (some 4) (.t 13), none⟩,
 ⟨(some 5), none, .alloc [(.int .i64 0), (.int .i64 0), (.int .i64 0), (.int .i64 0)], none⟩,
 ⟨(some 4), none, .mv false (.t 12), none⟩,
 ⟨none, none, .st (some 4) (.t 5) (.t 14), none⟩] (some [2, 3, 4, 5, 8, 9, 10])) (
 .reg false [
 ⟨(some 15), none, .mv false (.t 3), none⟩,
 ⟨(some 16), none, .mv false (.t 4), none⟩,
 ⟨(some 17), none, .fld 1 (.t 5), none⟩,
 ⟨(some 18), none, .ld none (.t 17), none⟩,
 ⟨(some 19), none, .fld 0 (.t 5), none⟩,
 ⟨(some 20), none, .ld none (.t 19), none⟩,
 ⟨(some 21), none, .fld 3 (.t 5), none⟩,
 ⟨(some 22), none, .ld none (.t 21), none⟩,
 ⟨(some 23), none, .fld 2 (.t 5), none⟩,
 ⟨(some 24), none, .ld none (.t 23), none⟩,
 ⟨(some 25), none, .bld [(.int .i64 0), (.int .i64 0), (.int .i64 0), (.int .i64 0)] [(0, none, (.t 18)), (1, none, (.t 20)), (2, none, (.t 22)), (3, none, (.t 24))], none⟩,
 ⟨(some 26), none, .ixs 4 (.t 15) (.t 16), none⟩,
 ⟨none, none, .st (some 4) (.t 26) (.t 25), none⟩] (some [2, 3, 8, 9, 10])))) (
 .reg false [
 ⟨(some 27), none, .bin .add .i64 (.t 10) (.c (.int .i64 1)), none⟩,
 ⟨(some 10), none, .mv false (.t 27), none⟩] (some [2, 3, 8, 9, 10])))))))) (
.seq (.reg false [
 ⟨(some 28), none, .mv false (.t 3), none⟩,
 ⟨(some 29), none, .call true 7 [(.t 28)], none⟩,
 ⟨none, none, .st (some 1) (.t 2) (.t 29), none⟩] (some [2])) (
.ret))))
set_option maxRecDepth 1000000 in
theorem comp_shape_turn : (Tryd.f60.body.bind fun code => compC Tryd.prog Tryd.f60.ntmps code c_shape_turn) = some c_shape_turn.bare := by kernel_rfl
def r_shape_turn : List R := [.cell 2 (some 1)]
theorem spo_shape_turn {ds : List D} {d : D} (hn : Nat.ble ds.length 30 = true) (h : run TSpC gtab 0 c_shape_turn (retK r_shape_turn (· = d)) ⟨env0 0 ds, []⟩) : TSp 60 ds d := Sp_of mixed c_shape_turn r_shape_turn (fn := Tryd.f60) (by kernel_rfl) (by kernel_rfl) comp_shape_turn (by kernel_rfl) hn h
/-- glazier/region.cuts -/
def c_region_cuts : C := .seq (.reg false [
 ⟨(some 4), none, .nilS 3 1, none⟩] (some [0, 1])) (
.seq (.reg false [
 ⟨(some 5), none, .nilS 3 1, none⟩] (some [0, 1, 5])) (
.seq (.seq (.reg false [
 ⟨(some 12), none, .mv false (.t 1), none⟩,
 ⟨(some 13), none, .len false (.t 12), none⟩,
 ⟨(some 14), none, .mv false (.c (.int .i64 0)), none⟩] (some [0, 5, 12, 13, 14])) (
.blk 0 (
 .loop (
 .seq (.reg false [
 ⟨(some 15), none, .bin .lss .i64 (.t 14) (.t 13), none⟩] (some [0, 5, 12, 13, 14, 15])) (
 .seq (.ite (.t 15) (
 .skip) (
 .exit 0)) (
 .seq (.blk 1 (
 .seq (.reg false [
 ⟨(some 16), none, .ixs 1 (.t 12) (.t 14), none⟩,
 ⟨(some 17), none, .ld none (.t 16), none⟩,
 ⟨(some 7), none, .mv false (.t 17), none⟩] (some [0, 5, 7, 12, 13, 14])) (
 .seq (.reg false [
 ⟨(some 18), none, .mv false (.t 7), none⟩,
 ⟨(some 19), none, .len false (.t 18), none⟩,
 ⟨(some 20), none, .mv false (.c (.int .i64 0)), none⟩] (some [0, 5, 12, 13, 14, 18, 19, 20])) (
 .blk 2 (
 .loop (
 .seq (.reg false [
 ⟨(some 21), none, .bin .lss .i64 (.t 20) (.t 19), none⟩] (some [0, 5, 12, 13, 14, 18, 19, 20, 21])) (
 .seq (.ite (.t 21) (
 .skip) (
 .exit 2)) (
 .seq (.blk 3 (
 .seq (.reg false [
 ⟨(some 22), none, .ixs 4 (.t 18) (.t 20), none⟩,
 ⟨(some 23), none, .ld (some 4) (.t 22), none⟩,
 ⟨(some 9), none, .alloc [(.int .i64 0), (.int .i64 0), (.int .i64 0), (.int .i64 0)], none⟩,
 ⟨none, none, .st (some 4) (.t 9) (.t 23), none⟩] (some [0, 5, 9, 12, 13, 14, 18, 19, 20])) (
 .seq (.reg false [
 ⟨(some 25), none, .mv false (.t 0), none⟩,
 ⟨(some 26), none, .ld (some 4) (.t 9), none⟩,
 ⟨(some 27), none, .callv false (.t 25) [(.t 26)], none⟩,
 ⟨(some 24), none, .mv false (.t 27), none⟩,
 ⟨(some 28), none, .ext (.t 24) 0, none⟩,
 ⟨(some 29), none, .ext (.t 24) 1, none⟩,
 ⟨(some 10), none, .mv false (.t 28), none⟩,
 ⟨(some 11), none, .mv false (.t 29), none⟩] (some [0, 5, 10, 11, 12, 13, 14, 18, 19, 20])) (
 .reg false [
 ⟨(some 30), none, .mv false (.t 5), none⟩,
 ⟨(some 31), none, .mv false (.t 10), none⟩,
 ⟨(some 32), none, .mv false (.t 10), none⟩,
 ⟨(some 33), none, .mv false (.t 11), none⟩,
 ⟨(some 34), none, .bin .add .i64 (.t 32) (.t 33), none⟩,
 ⟨(some 35), none, .bsl none 3 1 none [(.t 31), (.t 34)], none⟩,
 ⟨(some 36), none, .app 3 1 8 (.t 30) (.t 35), none⟩,
 ⟨(some 5), none, .mv false (.t 36), none⟩] (some [0, 5, 12, 13, 14, 18, 19, 20]))))) (
 .reg false [
 ⟨(some 37), none, .bin .add .i64 (.t 20) (.c (.int .i64 1)), none⟩,
 ⟨(some 20), none, .mv false (.t 37), none⟩] (some [0, 5, 12, 13, 14, 18, 19, 20])))))))))) (
 .reg false [
 ⟨(some 38), none, .bin .add .i64 (.t 14) (.c (.int .i64 1)), none⟩,
 ⟨(some 14), none, .mv false (.t 38), none⟩] (some [0, 5, 12, 13, 14])))))))) (
.seq (.reg false [
 ⟨(some 39), none, .mv false (.t 5), none⟩,
 ⟨(some 40), none, .call true 52 [(.t 39)], none⟩] (some [5])) (
.seq (.reg false [
 ⟨(some 41), none, .mv false (.t 5), none⟩,
 ⟨(some 42), none, .call true 53 [(.t 41)], none⟩,
 ⟨(some 4), none, .mv false (.t 42), none⟩] (some [4])) (
.ret)))))
set_option maxRecDepth 1000000 in
theorem comp_region_cuts : (Tryd.f61.body.bind fun code => compC Tryd.prog Tryd.f61.ntmps code c_region_cuts) = some c_region_cuts.bare := by kernel_rfl
def r_region_cuts : List R := [.t 4]
theorem spo_region_cuts {ds : List D} {d : D} (hn : Nat.ble ds.length 43 = true) (h : run TSpC gtab 0 c_region_cuts (retK r_region_cuts (· = d)) ⟨env0 0 ds, []⟩) : TSp 61 ds d := Sp_of mixed c_region_cuts r_region_cuts (fn := Tryd.f61) (by kernel_rfl) (by kernel_rfl) comp_region_cuts (by kernel_rfl) hn h
/-- (glazier/region.rule).join$1 -/
def c_region_rule_join_1 : C := .seq (.reg false [
 ⟨(some 1), none, .box true (.t 0), none⟩,
 ⟨(some 2), none, .mv false (.c (.int .i64 0)), none⟩,
 ⟨(some 3), none, .mv false (.c (.int .i64 0)), none⟩] (some [1])) (
.seq (.reg true [
 ⟨(some 4), none, .fld 1 (.t 1), none⟩,
 ⟨(some 5), none, .ld none (.t 4), none⟩,
 ⟨(some 6), none, .fld 3 (.t 1), none⟩,
 ⟨(some 7), none, .ld none (.t 6), none⟩,
 ⟨(some 2), none, .mv false (.t 5), none⟩,
 ⟨(some 3), none, .mv false (.t 7), none⟩] (some [2, 3])) (
.ret))
set_option maxRecDepth 1000000 in
theorem comp_region_rule_join_1 : (Tryd.f62.body.bind fun code => compC Tryd.prog Tryd.f62.ntmps code c_region_rule_join_1) = some c_region_rule_join_1.bare := by kernel_rfl
def r_region_rule_join_1 : List R := [.t 2, .t 3]
theorem spo_region_rule_join_1 {ds : List D} {d : D} (hn : Nat.ble ds.length 8 = true) (h : run TSpC gtab 0 c_region_rule_join_1 (retK r_region_rule_join_1 (· = d)) ⟨env0 0 ds, []⟩) : TSp 62 ds d := Sp_of mixed c_region_rule_join_1 r_region_rule_join_1 (fn := Tryd.f62) (by kernel_rfl) (by kernel_rfl) comp_region_rule_join_1 (by kernel_rfl) hn h
/-- (*glazier/region.walk).row -/
def c_region_walk_row : C := .seq (.reg false [
 ⟨(some 4), none, .nilS 25 4, none⟩] (some [0, 1])) (
.seq (.blk 0 (
 .loop (
 .seq (.seq (.reg true [
 ⟨(some 6), none, .mv false (.t 0), none⟩,
 ⟨(some 7), none, .chk (.t 6), none⟩,
 ⟨(some 8), none, .fld 0 (.t 7), none⟩,
 ⟨(some 9), none, .ld none (.t 8), none⟩,
 ⟨(some 10), none, .len false (.t 9), none⟩,
 ⟨(some 11), none, .bin .gtr .i64 (.t 10) (.c (.int .i64 0)), none⟩,
 ⟨(some 12), none, .mv false (.t 11), none⟩,
 ⟨(some 13), some (12, true), .mv false (.t 0), none⟩,
 ⟨(some 14), some (12, true), .chk (.t 13), none⟩,
 ⟨(some 15), some (12, true), .fld 0 (.t 14), none⟩,
 ⟨(some 16), some (12, true), .ld none (.t 15), none⟩,
 ⟨(some 17), some (12, true), .ixs 4 (.t 16) (.c (.int .i64 0)), none⟩,
 ⟨(some 18), some (12, true), .fld 1 (.t 17), none⟩,
 ⟨(some 19), some (12, true), .ld none (.t 18), none⟩,
 ⟨(some 20), some (12, true), .mv false (.t 0), none⟩,
 ⟨(some 21), some (12, true), .chk (.t 20), none⟩,
 ⟨(some 22), some (12, true), .fld 0 (.t 21), none⟩,
 ⟨(some 23), some (12, true), .ld none (.t 22), none⟩,
 ⟨(some 24), some (12, true), .ixs 4 (.t 23) (.c (.int .i64 0)), none⟩,
 ⟨(some 25), some (12, true), .fld 3 (.t 24), none⟩,
 ⟨(some 26), some (12, true), .ld none (.t 25), none⟩,
 ⟨(some 27), some (12, true), .bin .add .i64 (.t 19) (.t 26), none⟩,
 ⟨(some 28), some (12, true), .mv false (.t 1), none⟩,
 ⟨(some 29), some (12, true), .bin .leq .i64 (.t 27) (.t 28), none⟩,
 ⟨(some 30), none, .pick (.t 12) (.t 29) (.c (.bool false)), none⟩] (some [0, 1, 30])) (
 .ite (.t 30) (
 .skip) (
 .exit 0))) (
 .blk 1 (
 .reg false [
 ⟨(some 31), none, .mv false (.t 0), none⟩,
 ⟨(some 32), none, .mv false (.t 0), none⟩,
 ⟨(some 33), none, .chk (.t 32), none⟩,
 ⟨(some 34), none, .fld 0 (.t 33), none⟩,
 ⟨(some 35), none, .ld none (.t 34), none⟩,
 ⟨(some 36), none, .sls false 4 (.t 35) (some (.c (.int .i64 1))) none, none⟩,
 ⟨(some 37), none, .chk (.t 31), none⟩,
 ⟨(some 38), none, .fld 0 (.t 37), none⟩,
 ⟨none, none, .st none (.t 38) (.t 36), none⟩] (some [0, 1])))))) (
.seq (.reg false [
 ⟨(some 5), none, .mv false (.c (.int .i64 0)), none⟩] (some [0, 1, 5])) (
.seq (.blk 2 (
 .loop (
 .seq (.seq (.reg false [
 ⟨(some 39), none, .mv false (.t 5), none⟩,
 ⟨(some 40), none, .mv false (.t 0), none⟩,
 ⟨(some 41), none, .chk (.t 40), none⟩,
 ⟨(some 42), none, .fld 0 (.t 41), none⟩,
 ⟨(some 43), none, .ld none (.t 42), none⟩,
 ⟨(some 44), none, .len false (.t 43), none⟩,
 ⟨(some 45), none, .bin .lss .i64 (.t 39) (.t 44), none⟩,
 ⟨(some 46), none, .mv false (.t 45), none⟩,
 ⟨(some 47), some (46, true), .mv false (.t 0), none⟩,
 ⟨(some 48), some (46, true), .chk (.t 47), none⟩,
 ⟨(some 49), some (46, true), .fld 0 (.t 48), none⟩,
 ⟨(some 50), some (46, true), .ld none (.t 49), none⟩,
 ⟨(some 51), some (46, true), .mv false (.t 5), none⟩,
 ⟨(some 52), some (46, true), .ixs 4 (.t 50) (.t 51), none⟩,
 ⟨(some 53), some (46, true), .fld 1 (.t 52), none⟩,
 ⟨(some 54), some (46, true), .ld none (.t 53), none⟩,
 ⟨(some 55), some (46, true), .mv false (.t 1), none⟩,
 ⟨(some 56), some (46, true), .bin .leq .i64 (.t 54) (.t 55), none⟩,
 ⟨(some 57), none, .pick (.t 46) (.t 56) (.c (.bool false)), none⟩] (some [0, 1, 5, 57])) (
 .ite (.t 57) (
 .skip) (
 .exit 2))) (
 .blk 3 (
 .reg false [
 ⟨(some 58), none, .mv false (.t 5), none⟩,
 ⟨(some 59), none, .bin .add .i64 (.t 58) (.c (.int .i64 1)), none⟩,
 ⟨(some 5), none, .mv false (.t 59), none⟩] (some [0, 1, 5])))))) (
.seq (.reg false [
 ⟨(some 60), none, .mv false (.t 0), none⟩,
 ⟨(some 61), none, .chk (.t 60), none⟩,
 ⟨(some 62), none, .fld 0 (.t 61), none⟩,
 ⟨(some 63), none, .ld none (.t 62), none⟩,
 ⟨(some 64), none, .mv false (.t 5), none⟩,
 ⟨(some 65), none, .sls false 4 (.t 63) none (some (.t 64)), none⟩,
 ⟨(some 4), none, .mv false (.t 65), none⟩] (some [4])) (
.ret)))))
set_option maxRecDepth 1000000 in
theorem comp_region_walk_row : (Tryd.f63.body.bind fun code => compC Tryd.prog Tryd.f63.ntmps code c_region_walk_row) = some c_region_walk_row.bare := by kernel_rfl
def r_region_walk_row : List R := [.t 4]
theorem spm_region_walk_row {ds : List D} {d : D} {bx bx' : List Ent} (hn : Nat.ble ds.length 66 = true) (h : run TSpC gtab (sizeE bx) c_region_walk_row (retG r_region_walk_row (fun d1 bx1 => Rt (sizeE bx) bx1 d1 d bx')) ⟨env0 0 ds, bx⟩) : TSpM 63 ds bx d bx' := SpM_of mixed c_region_walk_row r_region_walk_row (fn := Tryd.f63) (by kernel_rfl) (by kernel_rfl) comp_region_walk_row (by kernel_rfl) hn h
/-- (glazier/region.rule).join$2 -/
def c_region_rule_join_2 : C := .seq (.reg false [
 ⟨(some 1), none, .box true (.t 0), none⟩,
 ⟨(some 2), none, .mv false (.c (.int .i64 0)), none⟩,
 ⟨(some 3), none, .mv false (.c (.int .i64 0)), none⟩] (some [1])) (
.seq (.reg true [
 ⟨(some 4), none, .fld 0 (.t 1), none⟩,
 ⟨(some 5), none, .ld none (.t 4), none⟩,
 ⟨(some 6), none, .fld 2 (.t 1), none⟩,
 ⟨(some 7), none, .ld none (.t 6), none⟩,
 ⟨(some 2), none, .mv false (.t 5), none⟩,
 ⟨(some 3), none, .mv false (.t 7), none⟩] (some [2, 3])) (
.ret))
set_option maxRecDepth 1000000 in
theorem comp_region_rule_join_2 : (Tryd.f64.body.bind fun code => compC Tryd.prog Tryd.f64.ntmps code c_region_rule_join_2) = some c_region_rule_join_2.bare := by kernel_rfl
def r_region_rule_join_2 : List R := [.t 2, .t 3]
theorem spo_region_rule_join_2 {ds : List D} {d : D} (hn : Nat.ble ds.length 8 = true) (h : run TSpC gtab 0 c_region_rule_join_2 (retK r_region_rule_join_2 (· = d)) ⟨env0 0 ds, []⟩) : TSp 64 ds d := Sp_of mixed c_region_rule_join_2 r_region_rule_join_2 (fn := Tryd.f64) (by kernel_rfl) (by kernel_rfl) comp_region_rule_join_2 (by kernel_rfl) hn h
/-- glazier/region.across -/
def c_region_across : C := .seq (.reg false [
 ⟨(some 4), none, .mv false (.c (.bool false)), none⟩] (some [0, 1])) (
.seq (.blk 0 (
 .loop (
 .seq (.seq (.reg true [
 ⟨(some 5), none, .mv false (.t 0), none⟩,
 ⟨(some 6), none, .chk (.t 5), none⟩,
 ⟨(some 7), none, .ld none (.t 6), none⟩,
 ⟨(some 8), none, .len false (.t 7), none⟩,
 ⟨(some 9), none, .bin .gtr .i64 (.t 8) (.c (.int .i64 0)), none⟩,
 ⟨(some 10), none, .mv false (.t 9), none⟩,
 ⟨(some 11), some (10, true), .mv false (.t 0), none⟩,
 ⟨(some 12), some (10, true), .chk (.t 11), none⟩,
 ⟨(some 13), some (10, true), .ld none (.t 12), none⟩,
 ⟨(some 14), some (10, true), .ixs 4 (.t 13) (.c (.int .i64 0)), none⟩,
 ⟨(some 15), some (10, true), .fld 0 (.t 14), none⟩,
 ⟨(some 16), some (10, true), .ld none (.t 15), none⟩,
 ⟨(some 17), some (10, true), .mv false (.t 0), none⟩,
 ⟨(some 18), some (10, true), .chk (.t 17), none⟩,
 ⟨(some 19), some (10, true), .ld none (.t 18), none⟩,
 ⟨(some 20), some (10, true), .ixs 4 (.t 19) (.c (.int .i64 0)), none⟩,
 ⟨(some 21), some (10, true), .fld 2 (.t 20), none⟩,
 ⟨(some 22), some (10, true), .ld none (.t 21), none⟩,
 ⟨(some 23), some (10, true), .bin .add .i64 (.t 16) (.t 22), none⟩,
 ⟨(some 24), some (10, true), .mv false (.t 1), none⟩,
 ⟨(some 25), some (10, true), .bin .leq .i64 (.t 23) (.t 24), none⟩,
 ⟨(some 26), none, .pick (.t 10) (.t 25) (.c (.bool false)), none⟩] (some [0, 1, 26])) (
 .ite (.t 26) (
 .skip) (
 .exit 0))) (
 .blk 1 (
 .reg false [
 ⟨(some 27), none, .mv false (.t 0), none⟩,
 ⟨(some 28), none, .mv false (.t 0), none⟩,
 ⟨(some 29), none, .chk (.t 28), none⟩,
 ⟨(some 30), none, .ld none (.t 29), none⟩,
 ⟨(some 31), none, .sls false 4 (.t 30) (some (.c (.int .i64 1))) none, none⟩,
 ⟨(some 32), none, .chk (.t 27), none⟩,
 ⟨none, none, .st none (.t 32) (.t 31), none⟩] (some [0, 1])))))) (
.seq (.reg false [
 ⟨(some 33), none, .mv false (.t 0), none⟩,
 ⟨(some 34), none, .chk (.t 33), none⟩,
 ⟨(some 35), none, .ld none (.t 34), none⟩,
 ⟨(some 36), none, .len false (.t 35), none⟩,
 ⟨(some 37), none, .bin .gtr .i64 (.t 36) (.c (.int .i64 0)), none⟩,
 ⟨(some 38), none, .mv false (.t 37), none⟩,
 ⟨(some 39), some (38, true), .mv false (.t 0), none⟩,
 ⟨(some 40), some (38, true), .chk (.t 39), none⟩,
 ⟨(some 41), some (38, true), .ld none (.t 40), none⟩,
 ⟨(some 42), some (38, true), .ixs 4 (.t 41) (.c (.int .i64 0)), none⟩,
 ⟨(some 43), some (38, true), .fld 0 (.t 42), none⟩,
 ⟨(some 44), some (38, true), .ld none (.t 43), none⟩,
 ⟨(some 45), some (38, true), .mv false (.t 1), none⟩,
 ⟨(some 46), some (38, true), .bin .leq .i64 (.t 44) (.t 45), none⟩,
 ⟨(some 47), none, .pick (.t 38) (.t 46) (.c (.bool false)), none⟩,
 ⟨(some 4), none, .mv false (.t 47), none⟩] (some [4])) (
.ret)))
set_option maxRecDepth 1000000 in
theorem comp_region_across : (Tryd.f65.body.bind fun code => compC Tryd.prog Tryd.f65.ntmps code c_region_across) = some c_region_across.bare := by kernel_rfl
def r_region_across : List R := [.t 4]
theorem spm_region_across {ds : List D} {d : D} {bx bx' : List Ent} (hn : Nat.ble ds.length 48 = true) (h : run TSpC gtab (sizeE bx) c_region_across (retG r_region_across (fun d1 bx1 => Rt (sizeE bx) bx1 d1 d bx')) ⟨env0 0 ds, bx⟩) : TSpM 65 ds bx d bx' := SpM_of mixed c_region_across r_region_across (fn := Tryd.f65) (by kernel_rfl) (by kernel_rfl) comp_region_across (by kernel_rfl) hn h
/-- glazier/gravity.Check -/
def c_gravity_Check : C := .seq (.reg false [
 ⟨(some 2), none, .mv false (.c (.int .i64 0)), none⟩] (some [0])) (
.seq (.seq (.reg false [
 ⟨(some 3), none, .mv false (.t 0), none⟩,
 ⟨(some 4), none, .bin .lss .i64 (.t 3) (.c (.int .i64 0)), none⟩,
 ⟨(some 5), none, .mv false (.t 4), none⟩,
 ⟨(some 6), some (5, false), .mv false (.t 0), none⟩,
 ⟨(some 7), some (5, false), .bin .gtr .i64 (.t 6) (.c (.int .i64 10)), none⟩,
 ⟨(some 8), none, .pick (.t 5) (.c (.bool true)) (.t 7), none⟩] (some [8])) (
.ite (.t 8) (
 .seq (.reg false [
 ⟨(some 2), none, .mv false (.c (.int .i64 10)), none⟩] (some [2])) (
 .ret)) (
 .skip))) (
.seq (.reg false [
 ⟨(some 2), none, .mv false (.c (.int .i64 0)), none⟩] (some [2])) (
.ret)))
set_option maxRecDepth 1000000 in
theorem comp_gravity_Check : (Tryd.f66.body.bind fun code => compC Tryd.prog Tryd.f66.ntmps code c_gravity_Check) = some c_gravity_Check.bare := by kernel_rfl
def r_gravity_Check : List R := [.t 2]
theorem spo_gravity_Check {ds : List D} {d : D} (hn : Nat.ble ds.length 9 = true) (h : run TSpC gtab 0 c_gravity_Check (retK r_gravity_Check (· = d)) ⟨env0 0 ds, []⟩) : TSp 66 ds d := Sp_of mixed c_gravity_Check r_gravity_Check (fn := Tryd.f66) (by kernel_rfl) (by kernel_rfl) comp_gravity_Check (by kernel_rfl) hn h
/-- glazier/rect.Empty -/
def c_rect_Empty : C := .seq (.reg false [
 ⟨(some 1), none, .box true (.t 0), none⟩,
 ⟨(some 2), none, .mv false (.c (.bool false)), none⟩] (some [1])) (
.seq (.reg false [
 ⟨(some 3), none, .ld (some 4) (.t 1), none⟩,
 ⟨(some 4), none, .call false 80 [(.t 3)], none⟩,
 ⟨(some 5), none, .bld [(.int .i64 0), (.int .i64 0), (.int .i64 0), (.int .i64 0)] [], none⟩,
 ⟨(some 6), none, .eqS false [.i .i64, .i .i64, .i .i64, .i .i64] (.t 4) (.t 5), none⟩,
 ⟨(some 2), none, .mv false (.t 6), none⟩] (some [2])) (
.ret))
set_option maxRecDepth 1000000 in
theorem comp_rect_Empty : (Tryd.f67.body.bind fun code => compC Tryd.prog Tryd.f67.ntmps code c_rect_Empty) = some c_rect_Empty.bare := by kernel_rfl
def r_rect_Empty : List R := [.t 2]
theorem spo_rect_Empty {ds : List D} {d : D} (hn : Nat.ble ds.length 7 = true) (h : run TSpC gtab 0 c_rect_Empty (retK r_rect_Empty (· = d)) ⟨env0 0 ds, []⟩) : TSp 67 ds d := Sp_of mixed c_rect_Empty r_rect_Empty (fn := Tryd.f67) (by kernel_rfl) (by kernel_rfl) comp_rect_Empty (by kernel_rfl) hn h
/-- glazier/gravity.part -/
def c_gravity_part : C := .seq (.reg false [
 ⟨(some 4), none, .mv false (.c (.int .i64 0)), none⟩] (some [0, 1])) (
.seq (.seq (.reg false [
 ⟨(some 5), none, .mv false (.t 1), none⟩] (some [0, 5])) (
.blk 0 (
 .seq (.reg false [
 ⟨(some 7), none, .bin .eql .i64 (.t 5) (.c (.int .i64 1)), none⟩,
 ⟨(some 6), none, .mv false (.t 7), none⟩] (some [0, 5, 6])) (
 .ite (.t 6) (
 .seq (.reg false [
 ⟨(some 8), none, .mv false (.t 0), none⟩,
 ⟨(some 9), none, .bin .shr .i64 (.t 8) (.c (.int .u64 1)), none⟩,
 ⟨(some 4), none, .mv false (.t 9), none⟩] (some [4])) (
 .ret)) (
 .seq (.reg false [
 ⟨(some 11), none, .bin .eql .i64 (.t 5) (.c (.int .i64 2)), none⟩,
 ⟨(some 10), none, .mv false (.t 11), none⟩] (some [0, 10])) (
 .ite (.t 10) (
 .seq (.reg false [
 ⟨(some 12), none, .mv false (.t 0), none⟩,
 ⟨(some 4), none, .mv false (.t 12), none⟩] (some [4])) (
 .ret)) (
 .skip))))))) (
.seq (.reg false [
 ⟨(some 4), none, .mv false (.c (.int .i64 0)), none⟩] (some [4])) (
.ret)))
set_option maxRecDepth 1000000 in
theorem comp_gravity_part : (Tryd.f68.body.bind fun code => compC Tryd.prog Tryd.f68.ntmps code c_gravity_part) = some c_gravity_part.bare := by kernel_rfl
def r_gravity_part : List R := [.t 4]
theorem spo_gravity_part {ds : List D} {d : D} (hn : Nat.ble ds.length 13 = true) (h : run TSpC gtab 0 c_gravity_part (retK r_gravity_part (· = d)) ⟨env0 0 ds, []⟩) : TSp 68 ds d := Sp_of mixed c_gravity_part r_gravity_part (fn := Tryd.f68) (by kernel_rfl) (by kernel_rfl) comp_gravity_part (by kernel_rfl) hn h
/-- glazier/rect.right -/
def c_rect_right : C := .seq (.reg false [
 ⟨(some 1), none, .box true (.t 0), none⟩,
 ⟨(some 2), none, .alloc [(.int .i64 0), (.int .i64 0), (.int .i64 0), (.int .i64 0)], none⟩] (some [1, 2])) (
.seq (.seq (.reg false [
 ⟨(some 3), none, .ld (some 4) (.t 1), none⟩,
 ⟨(some 4), none, .call false 95 [(.t 3)], none⟩,
 ⟨(some 5), none, .bin .neq .i64 (.t 4) (.c (.int .i64 0)), none⟩] (some [1, 2, 5])) (
.ite (.t 5) (
 .seq (.reg false [
 ⟨(some 6), none, .bld [(.int .i64 0), (.int .i64 0), (.int .i64 0), (.int .i64 0)] [], none⟩,
 ⟨none, none, .st (some 4) (.t 2) (.t 6), none⟩] (some [2])) (
 .ret)) (
 .skip))) (
.seq (.reg false [
 ⟨(some 7), none, .ld (some 4) (.t 1), none⟩,
 ⟨none, none, .st (some 4) (.t 2) (.t 7), none⟩] (some [2])) (
.ret)))
set_option maxRecDepth 1000000 in
theorem comp_rect_right : (Tryd.f80.body.bind fun code => compC Tryd.prog Tryd.f80.ntmps code c_rect_right) = some c_rect_right.bare := by kernel_rfl
def r_rect_right : List R := [.cell 2 (some 4)]
theorem spo_rect_right {ds : List D} {d : D} (hn : Nat.ble ds.length 8 = true) (h : run TSpC gtab 0 c_rect_right (retK r_rect_right (· = d)) ⟨env0 0 ds, []⟩) : TSp 80 ds d := Sp_of mixed c_rect_right r_rect_right (fn := Tryd.f80) (by kernel_rfl) (by kernel_rfl) comp_rect_right (by kernel_rfl) hn h
/-- glazier/rect.Check -/
def c_rect_Check : C := .seq (.reg false [
 ⟨(some 1), none, .box true (.t 0), none⟩,
 ⟨(some 2), none, .mv false (.c (.int .i64 0)), none⟩] (some [1])) (
.seq (.seq (.reg false [
 ⟨(some 3), none, .ld (some 4) (.t 1), none⟩,
 ⟨(some 4), none, .bld [(.int .i64 0), (.int .i64 0), (.int .i64 0), (.int .i64 0)] [], none⟩,
 ⟨(some 5), none, .eqS false [.i .i64, .i .i64, .i .i64, .i .i64] (.t 3) (.t 4), none⟩,
 ⟨(some 6), none, .mv false (.t 5), none⟩,
 ⟨(some 7), some (6, false), .fld 0 (.t 1), none⟩,
 ⟨(some 8), some (6, false), .ld none (.t 7), none⟩,
 ⟨(some 9), some (6, false), .fld 2 (.t 1), none⟩,
 ⟨(some 10), some (6, false), .ld none (.t 9), none⟩,
 ⟨(some 11), some (6, false), .call false 100 [(.t 8), (.t 10)], none⟩,
 ⟨(some 12), some (6, false), .mv false (.t 11), none⟩,
 ⟨(some 13), some (12, true), .fld 1 (.t 1), none⟩,
 ⟨(some 14), some (12, true), .ld none (.t 13), none⟩,
 ⟨(some 15), some (12, true), .fld 3 (.t 1), none⟩,
 ⟨(some 16), some (12, true), .ld none (.t 15), none⟩,
 ⟨(some 17), some (12, true), .call false 100 [(.t 14), (.t 16)], none⟩,
 ⟨(some 18), some (6, false), .pick (.t 12) (.t 17) (.c (.bool false)), none⟩,
 ⟨(some 19), none, .pick (.t 6) (.c (.bool true)) (.t 18), none⟩] (some [19])) (
.ite (.t 19) (
 .seq (.reg false [
 ⟨(some 2), none, .mv false (.c (.int .i64 0)), none⟩] (some [2])) (
 .ret)) (
 .skip))) (
.seq (.reg false [
 ⟨(some 2), none, .mv false (.c (.int .i64 1)), none⟩] (some [2])) (
.ret)))
set_option maxRecDepth 1000000 in
theorem comp_rect_Check : (Tryd.f95.body.bind fun code => compC Tryd.prog Tryd.f95.ntmps code c_rect_Check) = some c_rect_Check.bare := by kernel_rfl
def r_rect_Check : List R := [.t 2]
theorem spo_rect_Check {ds : List D} {d : D} (hn : Nat.ble ds.length 20 = true) (h : run TSpC gtab 0 c_rect_Check (retK r_rect_Check (· = d)) ⟨env0 0 ds, []⟩) : TSp 95 ds d := Sp_of mixed c_rect_Check r_rect_Check (fn := Tryd.f95) (by kernel_rfl) (by kernel_rfl) comp_rect_Check (by kernel_rfl) hn h
/-- glazier/rect.fits -/
def c_rect_fits : C := .seq (.reg false [
 ⟨(some 4), none, .mv false (.c (.bool false)), none⟩] (some [0, 1])) (
.seq (.reg false [
 ⟨(some 5), none, .mv false (.t 0), none⟩,
 ⟨(some 6), none, .bin .geq .i64 (.t 5) (.c (.int .i64 (-1048576))), none⟩,
 ⟨(some 7), none, .mv false (.t 6), none⟩,
 ⟨(some 8), some (7, true), .mv false (.t 1), none⟩,
 ⟨(some 9), some (7, true), .bin .geq .i64 (.t 8) (.c (.int .i64 1)), none⟩,
 ⟨(some 10), none, .pick (.t 7) (.t 9) (.c (.bool false)), none⟩,
 ⟨(some 11), none, .mv false (.t 10), none⟩,
 ⟨(some 12), some (11, true), .mv false (.t 1), none⟩,
 ⟨(some 13), some (11, true), .mv false (.t 0), none⟩,
 ⟨(some 14), some (11, true), .bin .sub .i64 (.c (.int .i64 1048576)) (.t 13), none⟩,
 ⟨(some 15), some (11, true), .bin .leq .i64 (.t 12) (.t 14), none⟩,
 ⟨(some 16), none, .pick (.t 11) (.t 15) (.c (.bool false)), none⟩,
 ⟨(some 4), none, .mv false (.t 16), none⟩] (some [4])) (
.ret))
set_option maxRecDepth 1000000 in
theorem comp_rect_fits : (Tryd.f100.body.bind fun code => compC Tryd.prog Tryd.f100.ntmps code c_rect_fits) = some c_rect_fits.bare := by kernel_rfl
def r_rect_fits : List R := [.t 4]
theorem spo_rect_fits {ds : List D} {d : D} (hn : Nat.ble ds.length 17 = true) (h : run TSpC gtab 0 c_rect_fits (retK r_rect_fits (· = d)) ⟨env0 0 ds, []⟩) : TSp 100 ds d := Sp_of mixed c_rect_fits r_rect_fits (fn := Tryd.f100) (by kernel_rfl) (by kernel_rfl) comp_rect_fits (by kernel_rfl) hn h
end Go.AM
