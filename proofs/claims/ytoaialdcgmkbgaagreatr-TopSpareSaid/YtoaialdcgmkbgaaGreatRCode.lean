import Derived.Test.YtoaialdcgmkbgaaGreatRA22
import Derived.Test.YtoaialdcgmkbgaaGreatRProg

set_option linter.all false
namespace Go.AM
open Go Go.Proofs
theorem kI : Tryz.prog.follows .mixedOrders = true := by kernel_rfl
def gtab : Nat → Option (List D) := fun _ => none
abbrev TSp := Sp Tryz.prog gtab
abbrev TSpM := SpM Tryz.prog gtab
abbrev TSpC := SpC Tryz.prog gtab
def c_top_TopSpare : C := .seq (.reg false [
 ⟨some 3, none, .box true (.t 0), none⟩,
 ⟨some 6, none, .mv false (.c (.bool false)), none⟩] (some [1, 2, 3])) (
.seq (.seq (.reg false [
 ⟨some 29, none, .call false 7 [], none⟩,
 ⟨some 30, none, .not (.t 29), none⟩] (some [1, 2, 3, 30])) (
.ite (.t 30) (
 .seq (.reg false [
 ⟨some 6, none, .mv false (.c (.bool false)), none⟩] (some [6])) (
 .ret)) (
 .skip))) (
.seq (.seq (.reg false [
 ⟨some 31, none, .ld (some 20) (.t 3), none⟩,
 ⟨some 32, none, .call false 8 [.t 31], none⟩,
 ⟨some 33, none, .not (.t 32), none⟩,
 ⟨some 34, none, .mv false (.t 33), none⟩,
 ⟨some 35, some (34, false), .fld 8 (.t 3), none⟩,
 ⟨some 36, some (34, false), .fld 2 (.t 35), none⟩,
 ⟨some 37, some (34, false), .ld none (.t 36), none⟩,
 ⟨some 38, some (34, false), .bin .rem .u8 (.t 37) (.c (.int .u8 32)), none⟩,
 ⟨some 39, some (34, false), .bin .eql .u8 (.t 38) (.c (.int .u8 0)), none⟩,
 ⟨some 40, none, .pick (.t 34) (.c (.bool true)) (.t 39), none⟩,
 ⟨some 41, none, .mv false (.t 40), none⟩,
 ⟨some 42, some (41, false), .fld 8 (.t 3), none⟩,
 ⟨some 43, some (41, false), .fld 3 (.t 42), none⟩,
 ⟨some 44, some (41, false), .ld none (.t 43), none⟩,
 ⟨some 45, some (41, false), .bin .rem .u8 (.t 44) (.c (.int .u8 32)), none⟩,
 ⟨some 46, some (41, false), .bin .eql .u8 (.t 45) (.c (.int .u8 0)), none⟩,
 ⟨some 47, none, .pick (.t 41) (.c (.bool true)) (.t 46), none⟩] (some [1, 2, 3, 47])) (
.ite (.t 47) (
 .seq (.reg false [
 ⟨some 6, none, .mv false (.c (.bool true)), none⟩] (some [6])) (
 .ret)) (
 .skip))) (
.seq (.reg false [
 ⟨some 48, none, .fld 3 (.t 3), none⟩,
 ⟨some 49, none, .ld (some 3) (.t 48), none⟩,
 ⟨some 50, none, .call false 9 [.t 49], none⟩,
 ⟨some 7, none, .alloc [(.int .i64 0), (.int .i64 0), (.ls 1 [])], none⟩,
 ⟨none, none, .st (some 3) (.t 7) (.t 50), none⟩] (some [1, 2, 3, 7])) (
.seq (.reg false [
 ⟨some 52, none, .ld (some 3) (.t 7), none⟩,
 ⟨some 53, none, .call false 10 [.t 52], none⟩,
 ⟨some 51, none, .mv false (.t 53), none⟩,
 ⟨some 54, none, .ext (.t 51) 0, none⟩,
 ⟨some 55, none, .ext (.t 51) 1, none⟩,
 ⟨some 8, none, .mv false (.t 54), none⟩,
 ⟨some 9, none, .mv false (.t 55), none⟩] (some [1, 2, 3, 7, 8, 9])) (
.seq (.reg false [
 ⟨some 56, none, .mv false (.t 8), none⟩,
 ⟨some 57, none, .mv false (.t 9), none⟩,
 ⟨some 58, none, .bld [(.int .i64 0), (.int .i64 0), (.int .i64 0), (.int .i64 0)] [(2, none, (.t 56)), (3, none, (.t 57))], none⟩,
 ⟨some 59, none, .bsl none 45 4 (some 4) [.t 58], none⟩,
 ⟨some 60, none, .call false 11 [.t 59], none⟩,
 ⟨some 10, none, .alloc [(.ls 4 [])], none⟩,
 ⟨none, none, .st (some 1) (.t 10) (.t 60), none⟩] (some [1, 2, 3, 7, 10])) (
.seq (.reg true [
 ⟨some 61, none, .fld 6 (.t 3), none⟩,
 ⟨some 62, none, .ld none (.t 61), some [0]⟩,
 ⟨some 63, none, .callC 12 [.t 62], none⟩,
 ⟨some 64, none, .callC 11 [.t 63], none⟩,
 ⟨some 65, none, .ld (some 1) (.t 10), some [2]⟩,
 ⟨some 66, none, .fld 7 (.t 3), none⟩,
 ⟨some 67, none, .ld none (.t 66), some [0]⟩,
 ⟨some 68, none, .callC 12 [.t 67], none⟩,
 ⟨some 69, none, .callC 11 [.t 68], none⟩,
 ⟨some 70, none, .callC 13 [(.t 65), (.t 69)], none⟩,
 ⟨some 11, none, .alloc [(.ls 4 [])], some [3, 4]⟩,
 ⟨some 12, none, .alloc [(.ls 4 [])], some [3, 4]⟩,
 ⟨none, none, .st (some 1) (.t 11) (.t 64), some [3]⟩,
 ⟨none, none, .st (some 1) (.t 12) (.t 70), some [4]⟩] (some [1, 2, 3, 7, 10, 11, 12])) (
.seq (.reg true [
 ⟨some 71, none, .fld 8 (.t 3), none⟩,
 ⟨some 72, none, .ld (some 4) (.t 71), some [0]⟩,
 ⟨some 73, none, .callC 14 [.t 72], none⟩,
 ⟨some 74, none, .fld 12 (.t 3), none⟩,
 ⟨some 75, none, .ld none (.t 74), some [0]⟩,
 ⟨some 76, none, .conv .i64 (.t 75), none⟩,
 ⟨some 77, none, .fld 13 (.t 3), none⟩,
 ⟨some 78, none, .ld none (.t 77), some [0]⟩,
 ⟨some 79, none, .conv .i64 (.t 78), none⟩,
 ⟨some 13, none, .alloc [(.int .i64 0), (.int .i64 0), (.int .i64 0), (.int .i64 0)], some [5]⟩,
 ⟨none, none, .st (some 4) (.t 13) (.t 73), some [5]⟩,
 ⟨some 14, none, .mv false (.t 76), none⟩,
 ⟨some 15, none, .mv false (.t 79), none⟩] (some [1, 2, 7, 10, 11, 12, 13, 14, 15])) (
.seq (.reg true [
 ⟨some 81, none, .ld (some 3) (.t 7), some [1]⟩,
 ⟨some 82, none, .ld (some 1) (.t 11), some [3]⟩,
 ⟨some 83, none, .ld (some 1) (.t 12), some [4]⟩,
 ⟨some 84, none, .ld (some 4) (.t 13), some [5]⟩,
 ⟨some 85, none, .mv false (.t 14), none⟩,
 ⟨some 86, none, .mv false (.t 15), none⟩,
 ⟨some 87, none, .callC 16 [], none⟩,
 ⟨some 88, none, .callC 15 [(.t 81), (.t 82), (.t 83), (.t 84), (.t 85), (.t 86), (.t 87)], none⟩,
 ⟨some 80, none, .mv false (.t 88), none⟩,
 ⟨some 89, none, .ext (.t 80) 0, none⟩,
 ⟨some 90, none, .ext (.t 80) 1, none⟩,
 ⟨some 16, none, .alloc [(.int .i64 0), (.int .i64 0), (.ls 1 [])], some [6, 7]⟩,
 ⟨some 17, none, .alloc [(.ls 4 [])], some [6, 7]⟩,
 ⟨none, none, .st (some 3) (.t 16) (.t 89), some [6]⟩,
 ⟨none, none, .st (some 1) (.t 17) (.t 90), some [7]⟩] (some [1, 2, 7, 10, 11, 12, 13, 14, 15, 16, 17])) (
.seq (.reg false [
 ⟨some 92, none, .ld (some 3) (.t 7), none⟩,
 ⟨some 93, none, .ld (some 4) (.t 13), none⟩,
 ⟨some 94, none, .call false 17 [(.t 92), (.t 93), (.c (.int .u8 0))], none⟩,
 ⟨some 91, none, .mv false (.t 94), none⟩,
 ⟨some 95, none, .ext (.t 91) 0, none⟩,
 ⟨some 96, none, .ext (.t 91) 1, none⟩,
 ⟨some 18, none, .alloc [(.int .i64 0), (.int .i64 0), (.ls 1 [])], none⟩,
 ⟨none, none, .st (some 3) (.t 18) (.t 95), none⟩,
 ⟨some 19, none, .mv false (.t 96), none⟩] (some [1, 2, 7, 10, 11, 12, 13, 14, 15, 16, 17, 18, 19])) (
.seq (.reg true [
 ⟨some 97, none, .ld (some 1) (.t 11), some [3]⟩,
 ⟨some 98, none, .ld (some 1) (.t 10), some [2]⟩,
 ⟨some 99, none, .callC 13 [(.t 97), (.t 98)], none⟩,
 ⟨some 100, none, .ld (some 4) (.t 13), some [5]⟩,
 ⟨some 101, none, .callC 19 [(.t 99), (.t 100)], none⟩,
 ⟨some 102, none, .mv false (.t 14), none⟩,
 ⟨some 103, none, .fld 0 (.t 13), none⟩,
 ⟨some 104, none, .ld none (.t 103), some [5]⟩,
 ⟨some 105, none, .bin .sub .i64 (.t 102) (.t 104), none⟩,
 ⟨some 106, none, .mv false (.t 15), none⟩,
 ⟨some 107, none, .fld 1 (.t 13), none⟩,
 ⟨some 108, none, .ld none (.t 107), some [5]⟩,
 ⟨some 109, none, .bin .sub .i64 (.t 106) (.t 108), none⟩,
 ⟨some 110, none, .callC 18 [(.t 101), (.t 105), (.t 109)], none⟩,
 ⟨some 20, none, .alloc [(.ls 4 [])], some [9]⟩,
 ⟨none, none, .st (some 1) (.t 20) (.t 110), some [9]⟩] (some [1, 2, 7, 12, 13, 14, 15, 16, 17, 18, 19, 20])) (
.seq (.reg false [
 ⟨some 111, none, .ld (some 1) (.t 12), none⟩,
 ⟨some 112, none, .mv false (.t 14), none⟩,
 ⟨some 113, none, .mv false (.t 15), none⟩,
 ⟨some 114, none, .fld 2 (.t 13), none⟩,
 ⟨some 115, none, .ld none (.t 114), none⟩,
 ⟨some 116, none, .fld 3 (.t 13), none⟩,
 ⟨some 117, none, .ld none (.t 116), none⟩,
 ⟨some 118, none, .bld [(.int .i64 0), (.int .i64 0), (.int .i64 0), (.int .i64 0)] [(0, none, (.t 112)), (1, none, (.t 113)), (2, none, (.t 115)), (3, none, (.t 117))], none⟩,
 ⟨some 119, none, .call false 19 [(.t 111), (.t 118)], none⟩,
 ⟨some 21, none, .alloc [(.ls 4 [])], none⟩,
 ⟨none, none, .st (some 1) (.t 21) (.t 119), none⟩] (some [1, 2, 7, 12, 14, 15, 16, 17, 18, 19, 20, 21])) (
.seq (.seq (.reg true [
 ⟨some 120, none, .mv false (.t 19), none⟩,
 ⟨some 121, none, .bin .neq .i64 (.t 120) (.c (.int .i64 0)), none⟩,
 ⟨some 122, none, .mv false (.t 121), none⟩,
 ⟨some 123, some (122, false), .ld (some 3) (.t 16), some [6]⟩,
 ⟨some 124, some (122, false), .ld (some 3) (.t 7), some [1]⟩,
 ⟨some 125, some (122, false), .ld (some 3) (.t 18), some [8]⟩,
 ⟨some 126, some (122, false), .mv false (.t 14), none⟩,
 ⟨some 127, some (122, false), .mv false (.t 15), none⟩,
 ⟨some 128, some (122, false), .ld (some 1) (.t 21), some [10]⟩,
 ⟨some 129, some (122, false), .ld (some 1) (.t 20), some [9]⟩,
 ⟨some 130, some (122, false), .callC 13 [(.t 128), (.t 129)], none⟩,
 ⟨some 131, some (122, false), .callC 21 [(.t 124), (.t 125), (.t 126), (.t 127), (.t 130)], none⟩,
 ⟨some 132, some (122, false), .callC 20 [(.t 123), (.t 131)], none⟩,
 ⟨some 133, some (122, false), .not (.t 132), none⟩,
 ⟨some 134, none, .pick (.t 122) (.c (.bool true)) (.t 133), none⟩,
 ⟨some 135, none, .mv false (.t 134), none⟩,
 ⟨some 136, some (135, false), .ld (some 1) (.t 17), some [7]⟩,
 ⟨some 137, some (135, false), .ld (some 1) (.t 21), some [10]⟩,
 ⟨some 138, some (135, false), .ld (some 1) (.t 20), some [9]⟩,
 ⟨some 139, some (135, false), .callC 23 [(.t 137), (.t 138)], none⟩,
 ⟨some 140, some (135, false), .callC 22 [(.t 136), (.t 139)], none⟩,
 ⟨some 141, some (135, false), .not (.t 140), none⟩,
 ⟨some 142, none, .pick (.t 135) (.c (.bool true)) (.t 141), none⟩] (some [1, 2, 7, 12, 142])) (
.ite (.t 142) (
 .seq (.reg false [
 ⟨some 6, none, .mv false (.c (.bool false)), none⟩] (some [6])) (
 .ret)) (
 .skip))) (
.seq (.reg false [
 ⟨some 143, none, .mv false (.t 1), none⟩,
 ⟨some 144, none, .bin .rem .i8 (.t 143) (.c (.int .i8 20)), none⟩,
 ⟨some 145, none, .conv .i64 (.t 144), none⟩,
 ⟨some 146, none, .mv false (.t 2), none⟩,
 ⟨some 147, none, .bin .rem .i8 (.t 146) (.c (.int .i8 20)), none⟩,
 ⟨some 148, none, .conv .i64 (.t 147), none⟩,
 ⟨some 22, none, .mv false (.t 145), none⟩,
 ⟨some 23, none, .mv false (.t 148), none⟩] (some [7, 12, 22, 23])) (
.seq (.reg true [
 ⟨some 150, none, .ld (some 3) (.t 7), some [1]⟩,
 ⟨some 151, none, .ld (some 1) (.t 12), some [4]⟩,
 ⟨some 152, none, .mv false (.t 22), none⟩,
 ⟨some 153, none, .mv false (.t 23), none⟩,
 ⟨some 154, none, .callC 16 [], none⟩,
 ⟨some 155, none, .callC 24 [(.t 150), (.t 151), (.t 152), (.t 153), (.t 154)], none⟩,
 ⟨some 149, none, .mv false (.t 155), none⟩,
 ⟨some 156, none, .ext (.t 149) 0, none⟩,
 ⟨some 157, none, .ext (.t 149) 1, none⟩,
 ⟨some 24, none, .alloc [(.int .i64 0), (.int .i64 0), (.ls 1 [])], some [11, 12]⟩,
 ⟨some 25, none, .alloc [(.ls 4 [])], some [11, 12]⟩,
 ⟨none, none, .st (some 3) (.t 24) (.t 156), some [11]⟩,
 ⟨none, none, .st (some 1) (.t 25) (.t 157), some [12]⟩] (some [7, 12, 22, 23, 24, 25])) (
.seq (.reg false [
 ⟨some 158, none, .bld [(.int .i64 0), (.int .i64 0), (.int .i64 0), (.int .i64 0)] [(0, none, (.c (.int .i64 (-20)))), (1, none, (.c (.int .i64 (-20)))), (2, none, (.c (.int .i64 60))), (3, none, (.c (.int .i64 60)))], none⟩,
 ⟨some 26, none, .alloc [(.int .i64 0), (.int .i64 0), (.int .i64 0), (.int .i64 0)], none⟩,
 ⟨none, none, .st (some 4) (.t 26) (.t 158), none⟩] (some [7, 12, 22, 23, 24, 25, 26])) (
.seq (.reg true [
 ⟨some 160, none, .ld (some 3) (.t 7), some [1]⟩,
 ⟨some 161, none, .ld (some 1) (.t 12), some [4]⟩,
 ⟨some 162, none, .ld (some 1) (.t 12), some [4]⟩,
 ⟨some 163, none, .ld (some 4) (.t 26), some [13]⟩,
 ⟨some 164, none, .fld 0 (.t 26), none⟩,
 ⟨some 165, none, .ld none (.t 164), some [13]⟩,
 ⟨some 166, none, .mv false (.t 22), none⟩,
 ⟨some 167, none, .bin .add .i64 (.t 165) (.t 166), none⟩,
 ⟨some 168, none, .fld 1 (.t 26), none⟩,
 ⟨some 169, none, .ld none (.t 168), some [13]⟩,
 ⟨some 170, none, .mv false (.t 23), none⟩,
 ⟨some 171, none, .bin .add .i64 (.t 169) (.t 170), none⟩,
 ⟨some 172, none, .callC 16 [], none⟩,
 ⟨some 173, none, .callC 15 [(.t 160), (.t 161), (.t 162), (.t 163), (.t 167), (.t 171), (.t 172)], none⟩,
 ⟨some 159, none, .mv false (.t 173), none⟩,
 ⟨some 174, none, .ext (.t 159) 0, none⟩,
 ⟨some 175, none, .ext (.t 159) 1, none⟩,
 ⟨some 27, none, .alloc [(.int .i64 0), (.int .i64 0), (.ls 1 [])], some [14, 15]⟩,
 ⟨some 28, none, .alloc [(.ls 4 [])], some [14, 15]⟩,
 ⟨none, none, .st (some 3) (.t 27) (.t 174), some [14]⟩,
 ⟨none, none, .st (some 1) (.t 28) (.t 175), some [15]⟩] (some [24, 25, 27, 28])) (
.seq (.reg false [
 ⟨some 176, none, .ld (some 3) (.t 24), none⟩,
 ⟨some 177, none, .ld (some 3) (.t 27), none⟩,
 ⟨some 178, none, .call false 20 [(.t 176), (.t 177)], none⟩,
 ⟨some 179, none, .mv false (.t 178), none⟩,
 ⟨some 180, some (179, true), .ld (some 1) (.t 25), none⟩,
 ⟨some 181, some (179, true), .ld (some 1) (.t 28), none⟩,
 ⟨some 182, some (179, true), .call false 22 [(.t 180), (.t 181)], none⟩,
 ⟨some 183, none, .pick (.t 179) (.t 182) (.c (.bool false)), none⟩,
 ⟨some 6, none, .mv false (.t 183), none⟩] (some [6])) (
.ret))))))))))))))))))
set_option maxRecDepth 1000000 in
theorem comp_top_TopSpare : (Tryz.f3.body.bind fun code => kD Tryz.prog Tryz.f3.ntmps code c_top_TopSpare) = some c_top_TopSpare.bare := by kernel_rfl
def kz : List R := [.t 6]
theorem spo_top_TopSpare {ds : List D} {d : D} (hn : Nat.ble ds.length 184 = true) (h : run TSpC gtab 0 c_top_TopSpare (retK kz (· = d)) ⟨env0 0 ds, []⟩) : TSp 3 ds d := k9 kI c_top_TopSpare kz (fn := Tryz.f3) (by kernel_rfl) (by kernel_rfl) comp_top_TopSpare (by kernel_rfl) hn h
def c_top_spareAwake : C := .seq (.reg false [
 ⟨some 0, none, .mv false (.c (.bool false)), none⟩] (some [])) (
.seq (.reg false [
 ⟨some 7, none, .call false 27 [(.c (.int .i64 3)), (.c (.int .i64 1)), (.c (.int .u8 0))], none⟩,
 ⟨some 6, none, .mv false (.t 7), none⟩,
 ⟨some 8, none, .ext (.t 6) 0, none⟩,
 ⟨some 9, none, .ext (.t 6) 1, none⟩,
 ⟨some 1, none, .alloc [(.int .i64 0), (.int .i64 0), (.ls 1 [])], none⟩,
 ⟨none, none, .st (some 3) (.t 1) (.t 8), none⟩,
 ⟨some 2, none, .mv false (.t 9), none⟩] (some [1, 2])) (
.seq (.reg false [
 ⟨some 10, none, .ld (some 3) (.t 1), none⟩,
 ⟨some 11, none, .call false 56 [(.t 10), (.c (.int .i64 0)), (.c (.int .i64 0)), (.c (.int .u8 5))], none⟩,
 ⟨none, none, .st (some 3) (.t 1) (.t 11), none⟩] (some [1, 2])) (
.seq (.reg false [
 ⟨some 12, none, .bld [(.int .i64 0), (.int .i64 0), (.int .i64 0), (.int .i64 0)] [(2, none, (.c (.int .i64 3))), (3, none, (.c (.int .i64 1)))], none⟩,
 ⟨some 13, none, .bsl none 45 4 (some 4) [.t 12], none⟩,
 ⟨some 14, none, .call false 11 [.t 13], none⟩,
 ⟨some 3, none, .alloc [(.ls 4 [])], none⟩,
 ⟨none, none, .st (some 1) (.t 3) (.t 14), none⟩] (some [1, 2, 3])) (
.seq (.reg true [
 ⟨some 16, none, .ld (some 3) (.t 1), some [0]⟩,
 ⟨some 17, none, .ld (some 1) (.t 3), some [1]⟩,
 ⟨some 18, none, .ld (some 1) (.t 3), some [1]⟩,
 ⟨some 19, none, .bld [(.int .i64 0), (.int .i64 0), (.int .i64 0), (.int .i64 0)] [(2, none, (.c (.int .i64 2))), (3, none, (.c (.int .i64 1)))], none⟩,
 ⟨some 20, none, .callC 16 [], none⟩,
 ⟨some 21, none, .callC 15 [(.t 16), (.t 17), (.t 18), (.t 19), (.c (.int .i64 1)), (.c (.int .i64 0)), (.t 20)], none⟩,
 ⟨some 15, none, .mv false (.t 21), none⟩,
 ⟨some 22, none, .ext (.t 15) 0, none⟩,
 ⟨some 23, none, .ext (.t 15) 1, none⟩,
 ⟨some 4, none, .alloc [(.int .i64 0), (.int .i64 0), (.ls 1 [])], some [2, 3]⟩,
 ⟨some 5, none, .alloc [(.ls 4 [])], some [2, 3]⟩,
 ⟨none, none, .st (some 3) (.t 4) (.t 22), some [2]⟩,
 ⟨none, none, .st (some 1) (.t 5) (.t 23), some [3]⟩] (some [2, 4])) (
.seq (.reg false [
 ⟨some 24, none, .mv false (.t 2), none⟩,
 ⟨some 25, none, .bin .eql .i64 (.t 24) (.c (.int .i64 0)), none⟩,
 ⟨some 26, none, .mv false (.t 25), none⟩,
 ⟨some 27, some (26, true), .ld (some 3) (.t 4), none⟩,
 ⟨some 28, some (26, true), .call false 57 [(.t 27), (.c (.int .i64 0))], none⟩,
 ⟨some 29, some (26, true), .eqb false true (.t 28) (.c (.str [5, 5, 0])), none⟩,
 ⟨some 30, none, .pick (.t 26) (.t 29) (.c (.bool false)), none⟩,
 ⟨some 0, none, .mv false (.t 30), none⟩] (some [0])) (
.ret))))))
set_option maxRecDepth 1000000 in
theorem comp_top_spareAwake : (Tryz.f7.body.bind fun code => kD Tryz.prog Tryz.f7.ntmps code c_top_spareAwake) = some c_top_spareAwake.bare := by kernel_rfl
def qp : List R := [.t 0]
theorem spo_top_spareAwake {ds : List D} {d : D} (hn : Nat.ble ds.length 31 = true) (h : run TSpC gtab 0 c_top_spareAwake (retK qp (· = d)) ⟨env0 0 ds, []⟩) : TSp 7 ds d := k9 kI c_top_spareAwake qp (fn := Tryz.f7) (by kernel_rfl) (by kernel_rfl) comp_top_spareAwake (by kernel_rfl) hn h
def c_law24_All_Few : C := .seq (.reg false [
 ⟨some 1, none, .box true (.t 0), none⟩,
 ⟨some 2, none, .mv false (.c (.bool false)), none⟩] (some [1])) (
.seq (.reg false [
 ⟨some 3, none, .fld 0 (.t 1), none⟩,
 ⟨some 4, none, .fld 2 (.t 3), none⟩,
 ⟨some 5, none, .ld none (.t 4), none⟩,
 ⟨some 6, none, .len false (.t 5), none⟩,
 ⟨some 7, none, .bin .leq .i64 (.t 6) (.c (.int .i64 300)), none⟩,
 ⟨some 8, none, .mv false (.t 7), none⟩,
 ⟨some 9, some (8, true), .fld 3 (.t 1), none⟩,
 ⟨some 10, some (8, true), .fld 2 (.t 9), none⟩,
 ⟨some 11, some (8, true), .ld none (.t 10), none⟩,
 ⟨some 12, some (8, true), .len false (.t 11), none⟩,
 ⟨some 13, some (8, true), .bin .leq .i64 (.t 12) (.c (.int .i64 300)), none⟩,
 ⟨some 14, none, .pick (.t 8) (.t 13) (.c (.bool false)), none⟩,
 ⟨some 15, none, .mv false (.t 14), none⟩,
 ⟨some 16, some (15, true), .fld 6 (.t 1), none⟩,
 ⟨some 17, some (15, true), .ld none (.t 16), none⟩,
 ⟨some 18, some (15, true), .len false (.t 17), none⟩,
 ⟨some 19, some (15, true), .bin .leq .i64 (.t 18) (.c (.int .i64 10)), none⟩,
 ⟨some 20, none, .pick (.t 15) (.t 19) (.c (.bool false)), none⟩,
 ⟨some 21, none, .mv false (.t 20), none⟩,
 ⟨some 22, some (21, true), .fld 7 (.t 1), none⟩,
 ⟨some 23, some (21, true), .ld none (.t 22), none⟩,
 ⟨some 24, some (21, true), .len false (.t 23), none⟩,
 ⟨some 25, some (21, true), .bin .leq .i64 (.t 24) (.c (.int .i64 10)), none⟩,
 ⟨some 26, none, .pick (.t 21) (.t 25) (.c (.bool false)), none⟩,
 ⟨some 27, none, .mv false (.t 26), none⟩,
 ⟨some 28, some (27, true), .fld 14 (.t 1), none⟩,
 ⟨some 29, some (27, true), .fld 5 (.t 28), none⟩,
 ⟨some 30, some (27, true), .ld none (.t 29), none⟩,
 ⟨some 31, some (27, true), .len false (.t 30), none⟩,
 ⟨some 32, some (27, true), .bin .leq .i64 (.t 31) (.c (.int .i64 10)), none⟩,
 ⟨some 33, none, .pick (.t 27) (.t 32) (.c (.bool false)), none⟩,
 ⟨some 2, none, .mv false (.t 33), none⟩] (some [2])) (
.ret))
set_option maxRecDepth 1000000 in
theorem comp_law24_All_Few : (Tryz.f8.body.bind fun code => kD Tryz.prog Tryz.f8.ntmps code c_law24_All_Few) = some c_law24_All_Few.bare := by kernel_rfl
def xm : List R := [.t 2]
theorem spo_law24_All_Few {ds : List D} {d : D} (hn : Nat.ble ds.length 34 = true) (h : run TSpC gtab 0 c_law24_All_Few (retK xm (· = d)) ⟨env0 0 ds, []⟩) : TSp 8 ds d := k9 kI c_law24_All_Few xm (fn := Tryz.f8) (by kernel_rfl) (by kernel_rfl) comp_law24_All_Few (by kernel_rfl) hn h
def c_law17_Plane_Make : C := .seq (.reg false [
 ⟨some 1, none, .box true (.t 0), none⟩,
 ⟨some 2, none, .alloc [(.int .i64 0), (.int .i64 0), (.ls 1 [])], none⟩] (some [1, 2])) (
.seq (.reg true [
 ⟨some 9, none, .fld 0 (.t 1), none⟩,
 ⟨some 10, none, .ld none (.t 9), none⟩,
 ⟨some 11, none, .bin .rem .u8 (.t 10) (.c (.int .u8 16)), none⟩,
 ⟨some 12, none, .conv .i64 (.t 11), none⟩,
 ⟨some 13, none, .bin .add .i64 (.t 12) (.c (.int .i64 1)), none⟩,
 ⟨some 14, none, .fld 1 (.t 1), none⟩,
 ⟨some 15, none, .ld none (.t 14), none⟩,
 ⟨some 16, none, .bin .rem .u8 (.t 15) (.c (.int .u8 16)), none⟩,
 ⟨some 17, none, .conv .i64 (.t 16), none⟩,
 ⟨some 18, none, .bin .add .i64 (.t 17) (.c (.int .i64 1)), none⟩,
 ⟨some 3, none, .mv false (.t 13), none⟩,
 ⟨some 4, none, .mv false (.t 18), none⟩] (some [1, 2, 3, 4])) (
.seq (.reg false [
 ⟨some 20, none, .mv false (.t 3), none⟩,
 ⟨some 21, none, .mv false (.t 4), none⟩,
 ⟨some 22, none, .call false 27 [(.t 20), (.t 21), (.c (.int .u8 0))], none⟩,
 ⟨some 19, none, .mv false (.t 22), none⟩,
 ⟨some 23, none, .ext (.t 19) 0, none⟩,
 ⟨some 24, none, .ext (.t 19) 1, none⟩,
 ⟨some 5, none, .alloc [(.int .i64 0), (.int .i64 0), (.ls 1 [])], none⟩,
 ⟨none, none, .st (some 3) (.t 5) (.t 23), none⟩,
 ⟨some 6, none, .mv false (.t 24), none⟩] (some [1, 2, 3, 4, 5])) (
.seq (.seq (.reg false [
 ⟨some 25, none, .fld 2 (.t 1), none⟩,
 ⟨some 26, none, .ld none (.t 25), none⟩,
 ⟨some 27, none, .len false (.t 26), none⟩,
 ⟨some 28, none, .mv false (.c (.int .i64 0)), none⟩] (some [2, 3, 4, 5, 26, 27, 28])) (
.blk 0 (
 .loop (
 .seq (.reg false [
 ⟨some 29, none, .bin .lss .i64 (.t 28) (.t 27), none⟩] (some [2, 3, 4, 5, 26, 27, 28, 29])) (
 .seq (.ite (.t 29) (
 .skip) (
 .exit 0)) (
 .seq (.blk 1 (
 .seq (.reg false [
 ⟨some 30, none, .mv false (.t 28), none⟩,
 ⟨some 31, none, .ixs 1 (.t 26) (.t 28), none⟩,
 ⟨some 32, none, .ld none (.t 31), none⟩,
 ⟨some 7, none, .mv false (.t 30), none⟩,
 ⟨some 8, none, .mv false (.t 32), none⟩] (some [2, 3, 4, 5, 7, 8, 26, 27, 28])) (
 .seq (.reg false [
 ⟨some 33, none, .mv false (.t 7), none⟩,
 ⟨some 34, none, .mv false (.t 3), none⟩,
 ⟨some 35, none, .mv false (.t 4), none⟩,
 ⟨some 36, none, .bin .mul .i64 (.t 34) (.t 35), none⟩,
 ⟨some 37, none, .bin .lss .i64 (.t 33) (.t 36), none⟩] (some [2, 3, 4, 5, 7, 8, 26, 27, 28, 37])) (
 .ite (.t 37) (
 .reg true [
 ⟨some 38, none, .ld (some 3) (.t 5), none⟩,
 ⟨some 39, none, .mv false (.t 7), none⟩,
 ⟨some 40, none, .mv false (.t 3), none⟩,
 ⟨some 41, none, .bin .rem .i64 (.t 39) (.t 40), none⟩,
 ⟨some 42, none, .mv false (.t 7), none⟩,
 ⟨some 43, none, .mv false (.t 3), none⟩,
 ⟨some 44, none, .bin .quo .i64 (.t 42) (.t 43), none⟩,
 ⟨some 45, none, .mv false (.t 8), none⟩,
 ⟨some 46, none, .call false 56 [(.t 38), (.t 41), (.t 44), (.t 45)], none⟩,
 ⟨none, none, .st (some 3) (.t 5) (.t 46), none⟩] (some [2, 3, 4, 5, 26, 27, 28])) (
 .skip))))) (
 .reg false [
 ⟨some 47, none, .bin .add .i64 (.t 28) (.c (.int .i64 1)), none⟩,
 ⟨some 28, none, .mv false (.t 47), none⟩] (some [2, 3, 4, 5, 26, 27, 28])))))))) (
.seq (.reg false [
 ⟨some 48, none, .ld (some 3) (.t 5), none⟩,
 ⟨none, none, .st (some 3) (.t 2) (.t 48), none⟩] (some [2])) (
.ret)))))
set_option maxRecDepth 1000000 in
theorem comp_law17_Plane_Make : (Tryz.f9.body.bind fun code => kD Tryz.prog Tryz.f9.ntmps code c_law17_Plane_Make) = some c_law17_Plane_Make.bare := by kernel_rfl
def qz : List R := [.cell 2 (some 3)]
theorem spo_law17_Plane_Make {ds : List D} {d : D} (hn : Nat.ble ds.length 49 = true) (h : run TSpC gtab 0 c_law17_Plane_Make (retK qz (· = d)) ⟨env0 0 ds, []⟩) : TSp 9 ds d := k9 kI c_law17_Plane_Make qz (fn := Tryz.f9) (by kernel_rfl) (by kernel_rfl) comp_law17_Plane_Make (by kernel_rfl) hn h
def c_grid_Grid_Size : C := .seq (.reg false [
 ⟨some 1, none, .box true (.t 0), none⟩,
 ⟨some 2, none, .mv false (.c (.int .i64 0)), none⟩,
 ⟨some 3, none, .mv false (.c (.int .i64 0)), none⟩] (some [1])) (
.seq (.reg true [
 ⟨some 4, none, .fld 0 (.t 1), none⟩,
 ⟨some 5, none, .ld none (.t 4), none⟩,
 ⟨some 6, none, .fld 1 (.t 1), none⟩,
 ⟨some 7, none, .ld none (.t 6), none⟩,
 ⟨some 2, none, .mv false (.t 5), none⟩,
 ⟨some 3, none, .mv false (.t 7), none⟩] (some [2, 3])) (
.ret))
set_option maxRecDepth 1000000 in
theorem comp_grid_Grid_Size : (Tryz.f10.body.bind fun code => kD Tryz.prog Tryz.f10.ntmps code c_grid_Grid_Size) = some c_grid_Grid_Size.bare := by kernel_rfl
def vJ : List R := [.t 2, .t 3]
theorem spo_grid_Grid_Size {ds : List D} {d : D} (hn : Nat.ble ds.length 8 = true) (h : run TSpC gtab 0 c_grid_Grid_Size (retK vJ (· = d)) ⟨env0 0 ds, []⟩) : TSp 10 ds d := k9 kI c_grid_Grid_Size vJ (fn := Tryz.f10) (by kernel_rfl) (by kernel_rfl) comp_grid_Grid_Size (by kernel_rfl) hn h
def c_band_Of : C := .seq (.reg false [
 ⟨some 2, none, .alloc [(.ls 4 [])], none⟩] (some [0, 2])) (
.seq (.reg false [
 ⟨some 3, none, .nilS 45 4, none⟩] (some [0, 2, 3])) (
.seq (.seq (.reg false [
 ⟨some 18, none, .mv false (.t 0), none⟩,
 ⟨some 19, none, .len false (.t 18), none⟩,
 ⟨some 20, none, .mv false (.c (.int .i64 0)), none⟩] (some [2, 3, 18, 19, 20])) (
.blk 0 (
 .loop (
 .seq (.reg false [
 ⟨some 21, none, .bin .lss .i64 (.t 20) (.t 19), none⟩] (some [2, 3, 18, 19, 20, 21])) (
 .seq (.ite (.t 21) (
 .skip) (
 .exit 0)) (
 .seq (.blk 1 (
 .seq (.reg false [
 ⟨some 22, none, .ixs 4 (.t 18) (.t 20), none⟩,
 ⟨some 23, none, .ld (some 4) (.t 22), none⟩,
 ⟨some 5, none, .alloc [(.int .i64 0), (.int .i64 0), (.int .i64 0), (.int .i64 0)], none⟩,
 ⟨none, none, .st (some 4) (.t 5) (.t 23), none⟩] (some [2, 3, 5, 18, 19, 20])) (
 .seq (.reg false [
 ⟨some 24, none, .ld (some 4) (.t 5), none⟩,
 ⟨some 25, none, .call false 58 [.t 24], none⟩] (some [2, 3, 5, 18, 19, 20, 25])) (
 .ite (.t 25) (
 .reg false [
 ⟨some 26, none, .mv false (.t 3), none⟩,
 ⟨some 27, none, .ld (some 4) (.t 5), none⟩,
 ⟨some 28, none, .bsl none 45 4 (some 4) [.t 27], none⟩,
 ⟨some 29, none, .app 45 4 32 (.t 26) (.t 28), none⟩,
 ⟨some 3, none, .mv false (.t 29), none⟩] (some [2, 3, 18, 19, 20])) (
 .skip))))) (
 .reg false [
 ⟨some 30, none, .bin .add .i64 (.t 20) (.c (.int .i64 1)), none⟩,
 ⟨some 20, none, .mv false (.t 30), none⟩] (some [2, 3, 18, 19, 20])))))))) (
.seq (.reg false [
 ⟨some 31, none, .mv false (.t 3), none⟩,
 ⟨some 32, none, .call true 59 [(.t 31), (.c (.fn 60 []))], none⟩] (some [2, 3])) (
.seq (.reg false [
 ⟨some 33, none, .mv false (.t 3), none⟩,
 ⟨some 34, none, .call false 63 [.t 33], none⟩,
 ⟨some 6, none, .mv false (.t 34), none⟩] (some [2, 3, 6])) (
.seq (.reg false [
 ⟨some 7, none, .alloc [(.bsl 45 0 4 0)], none⟩,
 ⟨some 8, none, .nilS 45 4, none⟩] (some [2, 3, 6, 7, 8])) (
.seq (.reg false [
 ⟨some 9, none, .mv false (.c (.int .i64 0)), none⟩] (some [2, 3, 6, 7, 8, 9])) (
.seq (.reg false [
 ⟨some 10, none, .mv false (.c (.int .i64 0)), none⟩] (some [2, 3, 6, 7, 8, 9, 10])) (
.seq (.seq (.reg false [
 ⟨some 11, none, .mv false (.c (.int .i64 0)), none⟩] (some [2, 3, 6, 7, 8, 9, 10, 11])) (
.blk 2 (
 .loop (
 .seq (.seq (.reg false [
 ⟨some 35, none, .mv false (.t 11), none⟩,
 ⟨some 36, none, .bin .add .i64 (.t 35) (.c (.int .i64 1)), none⟩,
 ⟨some 37, none, .mv false (.t 6), none⟩,
 ⟨some 38, none, .len false (.t 37), none⟩,
 ⟨some 39, none, .bin .lss .i64 (.t 36) (.t 38), none⟩] (some [2, 3, 6, 7, 8, 9, 10, 11, 39])) (
 .ite (.t 39) (
 .skip) (
 .exit 2))) (
 .seq (.blk 3 (
 .seq (.reg true [
 ⟨some 42, none, .mv false (.t 6), none⟩,
 ⟨some 43, none, .mv false (.t 11), none⟩,
 ⟨some 44, none, .ixs 1 (.t 42) (.t 43), some []⟩,
 ⟨some 45, none, .ld none (.t 44), some []⟩,
 ⟨some 46, none, .mv false (.t 6), none⟩,
 ⟨some 47, none, .mv false (.t 11), none⟩,
 ⟨some 48, none, .bin .add .i64 (.t 47) (.c (.int .i64 1)), none⟩,
 ⟨some 49, none, .ixs 1 (.t 46) (.t 48), some []⟩,
 ⟨some 50, none, .ld none (.t 49), some []⟩,
 ⟨some 12, none, .alloc [(.int .i64 0)], some [5, 6]⟩,
 ⟨some 13, none, .alloc [(.int .i64 0)], some [5, 6]⟩,
 ⟨none, none, .st none (.t 12) (.t 45), some [5]⟩,
 ⟨none, none, .st none (.t 13) (.t 50), some [6]⟩] (some [2, 3, 6, 7, 8, 9, 10, 11, 12, 13])) (
 .seq (.reg false [
 ⟨some 51, none, .mv false (.t 8), none⟩,
 ⟨some 52, none, .clo 65 [.t 12], none⟩,
 ⟨some 53, none, .call true 64 [(.t 51), (.t 52)], none⟩,
 ⟨some 8, none, .mv false (.t 53), none⟩] (some [2, 3, 6, 7, 8, 9, 10, 11, 12, 13])) (
 .seq (.reg false [
 ⟨some 54, none, .mv false (.t 10), none⟩,
 ⟨some 14, none, .mv false (.t 54), none⟩] (some [2, 3, 6, 7, 8, 9, 10, 11, 12, 13, 14])) (
 .seq (.blk 4 (
 .loop (
 .seq (.seq (.reg true [
 ⟨some 55, none, .mv false (.t 10), none⟩,
 ⟨some 56, none, .mv false (.t 3), none⟩,
 ⟨some 57, none, .len false (.t 56), none⟩,
 ⟨some 58, none, .bin .lss .i64 (.t 55) (.t 57), none⟩,
 ⟨some 59, none, .mv false (.t 58), none⟩,
 ⟨some 60, some (59, true), .mv false (.t 3), none⟩,
 ⟨some 61, some (59, true), .mv false (.t 10), none⟩,
 ⟨some 62, some (59, true), .ixs 4 (.t 60) (.t 61), none⟩,
 ⟨some 63, some (59, true), .fld 1 (.t 62), none⟩,
 ⟨some 64, some (59, true), .ld none (.t 63), none⟩,
 ⟨some 65, some (59, true), .ld none (.t 12), none⟩,
 ⟨some 66, some (59, true), .bin .eql .i64 (.t 64) (.t 65), none⟩,
 ⟨some 67, none, .pick (.t 59) (.t 66) (.c (.bool false)), none⟩] (some [2, 3, 6, 7, 8, 9, 10, 11, 12, 13, 14, 67])) (
 .ite (.t 67) (
 .skip) (
 .exit 4))) (
 .blk 5 (
 .seq (.reg false [
 ⟨some 68, none, .mv false (.t 8), none⟩,
 ⟨some 69, none, .mv false (.t 3), none⟩,
 ⟨some 70, none, .mv false (.t 10), none⟩,
 ⟨some 71, none, .ixs 4 (.t 69) (.t 70), none⟩,
 ⟨some 72, none, .ld (some 4) (.t 71), none⟩,
 ⟨some 73, none, .bsl none 45 4 (some 4) [.t 72], none⟩,
 ⟨some 74, none, .app 45 4 32 (.t 68) (.t 73), none⟩,
 ⟨some 8, none, .mv false (.t 74), none⟩] (some [2, 3, 6, 7, 8, 9, 10, 11, 12, 13, 14])) (
 .reg false [
 ⟨some 75, none, .mv false (.t 10), none⟩,
 ⟨some 76, none, .bin .add .i64 (.t 75) (.c (.int .i64 1)), none⟩,
 ⟨some 10, none, .mv false (.t 76), none⟩] (some [2, 3, 6, 7, 8, 9, 10, 11, 12, 13, 14]))))))) (
 .seq (.seq (.reg false [
 ⟨some 77, none, .mv false (.t 10), none⟩,
 ⟨some 78, none, .mv false (.t 14), none⟩,
 ⟨some 79, none, .bin .gtr .i64 (.t 77) (.t 78), none⟩] (some [2, 3, 6, 7, 8, 9, 10, 11, 12, 13, 79])) (
 .ite (.t 79) (
 .reg false [
 ⟨some 80, none, .mv false (.t 8), none⟩,
 ⟨some 81, none, .call true 59 [(.t 80), (.c (.fn 66 []))], none⟩] (some [2, 3, 6, 7, 8, 9, 10, 11, 12, 13])) (
 .skip))) (
 .seq (.reg false [
 ⟨some 82, none, .ld none (.t 7), none⟩,
 ⟨some 83, none, .len false (.t 82), none⟩,
 ⟨some 15, none, .mv false (.t 83), none⟩] (some [2, 3, 6, 7, 8, 9, 10, 11, 12, 13, 15])) (
 .seq (.seq (.reg false [
 ⟨some 84, none, .mv false (.t 8), none⟩,
 ⟨some 85, none, .call true 67 [.t 84], none⟩] (some [2, 3, 6, 7, 8, 9, 10, 11, 12, 13, 15, 85])) (
 .blk 6 (
 .rangef (.t 85) [86] (
 .reg false [
 ⟨some 16, none, .alloc [(.int .i64 0), (.int .i64 0)], none⟩,
 ⟨none, none, .st (some 2) (.t 16) (.t 86), none⟩] (some [7, 12, 13, 16])) (
 .blk 7 (
 .reg false [
 ⟨some 87, none, .ld none (.t 7), none⟩,
 ⟨some 88, none, .fld 0 (.t 16), none⟩,
 ⟨some 89, none, .ld none (.t 88), none⟩,
 ⟨some 90, none, .ld none (.t 12), none⟩,
 ⟨some 91, none, .fld 1 (.t 16), none⟩,
 ⟨some 92, none, .ld none (.t 91), none⟩,
 ⟨some 93, none, .fld 0 (.t 16), none⟩,
 ⟨some 94, none, .ld none (.t 93), none⟩,
 ⟨some 95, none, .bin .sub .i64 (.t 92) (.t 94), none⟩,
 ⟨some 96, none, .ld none (.t 13), none⟩,
 ⟨some 97, none, .ld none (.t 12), none⟩,
 ⟨some 98, none, .bin .sub .i64 (.t 96) (.t 97), none⟩,
 ⟨some 99, none, .bld [(.int .i64 0), (.int .i64 0), (.int .i64 0), (.int .i64 0)] [(0, none, (.t 89)), (1, none, (.t 90)), (2, none, (.t 95)), (3, none, (.t 98))], none⟩,
 ⟨some 100, none, .bsl none 45 4 (some 4) [.t 99], none⟩,
 ⟨some 101, none, .app 45 4 32 (.t 87) (.t 100), none⟩,
 ⟨none, none, .st none (.t 7) (.t 101), none⟩] (some [])))))) (
 .seq (.reg true [
 ⟨some 102, none, .ld none (.t 7), none⟩,
 ⟨some 103, none, .mv false (.t 9), none⟩,
 ⟨some 104, none, .mv false (.t 15), none⟩,
 ⟨some 105, none, .prm false false (.sub 40 true true) [(.t 102), (.t 103), (.t 104)], none⟩,
 ⟨some 106, none, .ld none (.t 7), none⟩,
 ⟨some 107, none, .mv false (.t 15), none⟩,
 ⟨some 108, none, .prm false false (.sub 40 true false) [(.t 106), (.t 107)], none⟩,
 ⟨some 109, none, .call false 68 [(.t 105), (.t 108)], none⟩] (some [2, 3, 6, 7, 8, 9, 10, 11, 12, 13, 15, 109])) (
 .ite (.t 109) (
 .seq (.seq (.reg false [
 ⟨some 110, none, .mv false (.t 9), none⟩,
 ⟨some 17, none, .mv false (.t 110), none⟩] (some [2, 3, 6, 7, 8, 9, 10, 11, 12, 13, 15, 17])) (
 .blk 8 (
 .loop (
 .seq (.seq (.reg false [
 ⟨some 111, none, .mv false (.t 17), none⟩,
 ⟨some 112, none, .mv false (.t 15), none⟩,
 ⟨some 113, none, .bin .lss .i64 (.t 111) (.t 112), none⟩] (some [2, 3, 6, 7, 8, 9, 10, 11, 12, 13, 15, 17, 113])) (
 .ite (.t 113) (
 .skip) (
 .exit 8))) (
 .seq (.blk 9 (
 .reg true [
 ⟨some 116, none, .ld none (.t 7), none⟩,
 ⟨some 117, none, .mv false (.t 17), none⟩,
 ⟨some 118, none, .ixs 4 (.t 116) (.t 117), none⟩,
 ⟨some 119, none, .fld 3 (.t 118), none⟩,
 ⟨some 120, none, .ld none (.t 119), none⟩,
 ⟨some 121, none, .ld none (.t 13), none⟩,
 ⟨some 122, none, .ld none (.t 12), none⟩,
 ⟨some 123, none, .bin .sub .i64 (.t 121) (.t 122), none⟩,
 ⟨some 124, none, .bin .add .i64 (.t 120) (.t 123), none⟩,
 ⟨some 125, none, .ixs 4 (.t 116) (.t 117), none⟩,
 ⟨some 126, none, .fld 3 (.t 125), none⟩,
 ⟨none, none, .st none (.t 126) (.t 124), none⟩] (some [2, 3, 6, 7, 8, 9, 10, 11, 12, 13, 15, 17]))) (
 .reg false [
 ⟨some 114, none, .mv false (.t 17), none⟩,
 ⟨some 115, none, .bin .add .i64 (.t 114) (.c (.int .i64 1)), none⟩,
 ⟨some 17, none, .mv false (.t 115), none⟩] (some [2, 3, 6, 7, 8, 9, 10, 11, 12, 13, 15, 17]))))))) (
 .reg false [
 ⟨some 127, none, .ld none (.t 7), none⟩,
 ⟨some 128, none, .mv false (.t 15), none⟩,
 ⟨some 129, none, .prm false true (.trc 40) [(.t 127), (.t 128)], none⟩,
 ⟨none, none, .st none (.t 7) (.t 129), none⟩] (some [2, 3, 6, 7, 8, 9, 10, 11]))) (
 .reg false [
 ⟨some 130, none, .mv false (.t 15), none⟩,
 ⟨some 9, none, .mv false (.t 130), none⟩] (some [2, 3, 6, 7, 8, 9, 10, 11])))))))))))) (
 .reg false [
 ⟨some 40, none, .mv false (.t 11), none⟩,
 ⟨some 41, none, .bin .add .i64 (.t 40) (.c (.int .i64 1)), none⟩,
 ⟨some 11, none, .mv false (.t 41), none⟩] (some [2, 3, 6, 7, 8, 9, 10, 11]))))))) (
.seq (.reg false [
 ⟨some 131, none, .ld none (.t 7), none⟩,
 ⟨some 132, none, .call true 69 [.t 131], none⟩,
 ⟨some 133, none, .bld [(.ls 4 [])] [(0, none, (.t 132))], none⟩,
 ⟨none, none, .st (some 1) (.t 2) (.t 133), none⟩] (some [2])) (
.ret))))))))))
set_option maxRecDepth 1000000 in
theorem comp_band_Of : (Tryz.f11.body.bind fun code => kD Tryz.prog Tryz.f11.ntmps code c_band_Of) = some c_band_Of.bare := by kernel_rfl
def kP : List R := [.cell 2 (some 1)]
theorem spo_band_Of {ds : List D} {d : D} (hn : Nat.ble ds.length 134 = true) (h : run TSpC gtab 0 c_band_Of (retK kP (· = d)) ⟨env0 0 ds, []⟩) : TSp 11 ds d := k9 kI c_band_Of kP (fn := Tryz.f11) (by kernel_rfl) (by kernel_rfl) comp_band_Of (by kernel_rfl) hn h
def c_law17_Rects : C := .seq (.reg false [
 ⟨some 2, none, .nilS 45 4, none⟩] (some [0])) (
.seq (.reg false [
 ⟨some 3, none, .nilS 45 4, none⟩] (some [0, 3])) (
.seq (.seq (.reg false [
 ⟨some 6, none, .mv false (.t 0), none⟩,
 ⟨some 7, none, .len false (.t 6), none⟩,
 ⟨some 8, none, .mv false (.c (.int .i64 0)), none⟩] (some [3, 6, 7, 8])) (
.blk 0 (
 .loop (
 .seq (.reg false [
 ⟨some 9, none, .bin .lss .i64 (.t 8) (.t 7), none⟩] (some [3, 6, 7, 8, 9])) (
 .seq (.ite (.t 9) (
 .skip) (
 .exit 0)) (
 .seq (.blk 1 (
 .seq (.reg false [
 ⟨some 10, none, .ixs 4 (.t 6) (.t 8), none⟩,
 ⟨some 11, none, .ld (some 4) (.t 10), none⟩,
 ⟨some 5, none, .alloc [(.int .i8 0), (.int .i8 0), (.int .u8 0), (.int .u8 0)], none⟩,
 ⟨none, none, .st (some 4) (.t 5) (.t 11), none⟩] (some [3, 5, 6, 7, 8])) (
 .reg false [
 ⟨some 12, none, .mv false (.t 3), none⟩,
 ⟨some 13, none, .ld (some 4) (.t 5), none⟩,
 ⟨some 14, none, .call false 14 [.t 13], none⟩,
 ⟨some 15, none, .bsl none 45 4 (some 4) [.t 14], none⟩,
 ⟨some 16, none, .app 45 4 32 (.t 12) (.t 15), none⟩,
 ⟨some 3, none, .mv false (.t 16), none⟩] (some [3, 6, 7, 8])))) (
 .reg false [
 ⟨some 17, none, .bin .add .i64 (.t 8) (.c (.int .i64 1)), none⟩,
 ⟨some 8, none, .mv false (.t 17), none⟩] (some [3, 6, 7, 8])))))))) (
.seq (.reg false [
 ⟨some 18, none, .mv false (.t 3), none⟩,
 ⟨some 2, none, .mv false (.t 18), none⟩] (some [2])) (
.ret))))
set_option maxRecDepth 1000000 in
theorem comp_law17_Rects : (Tryz.f12.body.bind fun code => kD Tryz.prog Tryz.f12.ntmps code c_law17_Rects) = some c_law17_Rects.bare := by kernel_rfl
def zt : List R := [.t 2]
theorem spo_law17_Rects {ds : List D} {d : D} (hn : Nat.ble ds.length 19 = true) (h : run TSpC gtab 0 c_law17_Rects (retK zt (· = d)) ⟨env0 0 ds, []⟩) : TSp 12 ds d := k9 kI c_law17_Rects zt (fn := Tryz.f12) (by kernel_rfl) (by kernel_rfl) comp_law17_Rects (by kernel_rfl) hn h
def c_region_Meet : C := .seq (.reg false [
 ⟨some 2, none, .box true (.t 0), none⟩,
 ⟨some 3, none, .box true (.t 1), none⟩,
 ⟨some 4, none, .alloc [(.ls 4 [])], none⟩] (some [2, 3, 4])) (
.seq (.reg false [
 ⟨some 5, none, .bld [.nil] [(0, none, (.c (.fn 70 [])))], none⟩,
 ⟨some 6, none, .ld (some 1) (.t 2), none⟩,
 ⟨some 7, none, .ld (some 1) (.t 3), none⟩,
 ⟨some 8, none, .call false 71 [(.t 5), (.t 6), (.t 7)], none⟩,
 ⟨none, none, .st (some 1) (.t 4) (.t 8), none⟩] (some [4])) (
.ret))
set_option maxRecDepth 1000000 in
theorem comp_region_Meet : (Tryz.f13.body.bind fun code => kD Tryz.prog Tryz.f13.ntmps code c_region_Meet) = some c_region_Meet.bare := by kernel_rfl
def vT : List R := [.cell 4 (some 1)]
theorem spo_region_Meet {ds : List D} {d : D} (hn : Nat.ble ds.length 9 = true) (h : run TSpC gtab 0 c_region_Meet (retK vT (· = d)) ⟨env0 0 ds, []⟩) : TSp 13 ds d := k9 kI c_region_Meet vT (fn := Tryz.f13) (by kernel_rfl) (by kernel_rfl) comp_region_Meet (by kernel_rfl) hn h
def c_law17_Small_Rect : C := .seq (.reg false [
 ⟨some 1, none, .box true (.t 0), none⟩,
 ⟨some 2, none, .alloc [(.int .i64 0), (.int .i64 0), (.int .i64 0), (.int .i64 0)], none⟩] (some [1, 2])) (
.seq (.reg false [
 ⟨some 3, none, .fld 0 (.t 1), none⟩,
 ⟨some 4, none, .ld none (.t 3), none⟩,
 ⟨some 5, none, .conv .i64 (.t 4), none⟩,
 ⟨some 6, none, .fld 1 (.t 1), none⟩,
 ⟨some 7, none, .ld none (.t 6), none⟩,
 ⟨some 8, none, .conv .i64 (.t 7), none⟩,
 ⟨some 9, none, .fld 2 (.t 1), none⟩,
 ⟨some 10, none, .ld none (.t 9), none⟩,
 ⟨some 11, none, .bin .rem .u8 (.t 10) (.c (.int .u8 32)), none⟩,
 ⟨some 12, none, .conv .i64 (.t 11), none⟩,
 ⟨some 13, none, .fld 3 (.t 1), none⟩,
 ⟨some 14, none, .ld none (.t 13), none⟩,
 ⟨some 15, none, .bin .rem .u8 (.t 14) (.c (.int .u8 32)), none⟩,
 ⟨some 16, none, .conv .i64 (.t 15), none⟩,
 ⟨some 17, none, .bld [(.int .i64 0), (.int .i64 0), (.int .i64 0), (.int .i64 0)] [(0, none, (.t 5)), (1, none, (.t 8)), (2, none, (.t 12)), (3, none, (.t 16))], none⟩,
 ⟨none, none, .st (some 4) (.t 2) (.t 17), none⟩] (some [2])) (
.ret))
set_option maxRecDepth 1000000 in
theorem comp_law17_Small_Rect : (Tryz.f14.body.bind fun code => kD Tryz.prog Tryz.f14.ntmps code c_law17_Small_Rect) = some c_law17_Small_Rect.bare := by kernel_rfl
def vb : List R := [.cell 2 (some 4)]
theorem spo_law17_Small_Rect {ds : List D} {d : D} (hn : Nat.ble ds.length 18 = true) (h : run TSpC gtab 0 c_law17_Small_Rect (retK vb (· = d)) ⟨env0 0 ds, []⟩) : TSp 14 ds d := k9 kI c_law17_Small_Rect vb (fn := Tryz.f14) (by kernel_rfl) (by kernel_rfl) comp_law17_Small_Rect (by kernel_rfl) hn h
def c_blit_Within : C := .seq (.reg false [
 ⟨some 7, none, .box true (.t 0), none⟩,
 ⟨some 8, none, .box true (.t 1), none⟩,
 ⟨some 9, none, .box true (.t 2), none⟩,
 ⟨some 10, none, .box true (.t 3), none⟩,
 ⟨some 13, none, .box true (.t 6), none⟩,
 ⟨some 14, none, .alloc [(.int .i64 0), (.int .i64 0), (.ls 1 [])], none⟩,
 ⟨some 15, none, .alloc [(.ls 4 [])], none⟩] (some [4, 5, 7, 8, 9, 10, 13, 14, 15])) (
.seq (.reg false [
 ⟨some 16, none, .ld (some 3) (.t 7), none⟩,
 ⟨some 17, none, .ld (some 3) (.t 7), none⟩,
 ⟨some 18, none, .ld (some 1) (.t 8), none⟩,
 ⟨some 19, none, .ld (some 1) (.t 9), none⟩,
 ⟨some 20, none, .ld (some 4) (.t 10), none⟩,
 ⟨some 21, none, .mv false (.t 4), none⟩,
 ⟨some 22, none, .mv false (.t 5), none⟩,
 ⟨some 23, none, .ld (some 9) (.t 13), none⟩,
 ⟨some 24, none, .call false 72 [(.t 16), (.t 17), (.t 18), (.t 19), (.t 20), (.t 21), (.t 22), (.t 23)], none⟩,
 ⟨some 25, none, .ext (.t 24) 0, none⟩,
 ⟨some 26, none, .ext (.t 24) 1, none⟩,
 ⟨none, none, .st (some 3) (.t 14) (.t 25), none⟩,
 ⟨none, none, .st (some 1) (.t 15) (.t 26), none⟩] (some [14, 15])) (
.ret))
set_option maxRecDepth 1000000 in
theorem comp_blit_Within : (Tryz.f15.body.bind fun code => kD Tryz.prog Tryz.f15.ntmps code c_blit_Within) = some c_blit_Within.bare := by kernel_rfl
def vU : List R := [.cell 14 (some 3), .cell 15 (some 1)]
theorem spo_blit_Within {ds : List D} {d : D} (hn : Nat.ble ds.length 27 = true) (h : run TSpC gtab 0 c_blit_Within (retK vU (· = d)) ⟨env0 0 ds, []⟩) : TSp 15 ds d := k9 kI c_blit_Within vU (fn := Tryz.f15) (by kernel_rfl) (by kernel_rfl) comp_blit_Within (by kernel_rfl) hn h
def c_pen_New : C := .seq (.reg false [
 ⟨some 0, none, .alloc [(.int .i64 0), (.int .u8 0), (.int .u8 0), (.int .u8 0), (.int .u32 0), (.int .i64 0), (.int .i64 0), (.bool false), (.ls 4 [])], none⟩] (some [0])) (
.seq (.reg false [
 ⟨some 1, none, .bld [(.int .i64 0), (.int .u8 0), (.int .u8 0), (.int .u8 0), (.int .u32 0), (.int .i64 0), (.int .i64 0), (.bool false), (.ls 4 [])] [(0, none, (.c (.int .i64 3))), (1, none, (.c (.int .u8 255))), (3, none, (.c (.int .u8 1)))], none⟩,
 ⟨none, none, .st (some 9) (.t 0) (.t 1), none⟩] (some [0])) (
.ret))
set_option maxRecDepth 1000000 in
theorem comp_pen_New : (Tryz.f16.body.bind fun code => kD Tryz.prog Tryz.f16.ntmps code c_pen_New) = some c_pen_New.bare := by kernel_rfl
def r_pen_New : List R := [.cell 0 (some 9)]
theorem spo_pen_New {ds : List D} {d : D} (hn : Nat.ble ds.length 2 = true) (h : run TSpC gtab 0 c_pen_New (retK r_pen_New (· = d)) ⟨env0 0 ds, []⟩) : TSp 16 ds d := k9 kI c_pen_New r_pen_New (fn := Tryz.f16) (by kernel_rfl) (by kernel_rfl) comp_pen_New (by kernel_rfl) hn h
def c_grid_Grid_Crop : C := .seq (.reg false [
 ⟨some 3, none, .box true (.t 0), none⟩,
 ⟨some 4, none, .box true (.t 1), none⟩,
 ⟨some 6, none, .alloc [(.int .i64 0), (.int .i64 0), (.ls 1 [])], none⟩,
 ⟨some 7, none, .mv false (.c (.int .i64 0)), none⟩] (some [2, 3, 4, 6])) (
.seq (.seq (.reg false [
 ⟨some 12, none, .fld 2 (.t 4), none⟩,
 ⟨some 13, none, .ld none (.t 12), none⟩,
 ⟨some 14, none, .call false 73 [.t 13], none⟩,
 ⟨some 15, none, .not (.t 14), none⟩,
 ⟨some 16, none, .mv false (.t 15), none⟩,
 ⟨some 17, some (16, false), .fld 3 (.t 4), none⟩,
 ⟨some 18, some (16, false), .ld none (.t 17), none⟩,
 ⟨some 19, some (16, false), .call false 73 [.t 18], none⟩,
 ⟨some 20, some (16, false), .not (.t 19), none⟩,
 ⟨some 21, none, .pick (.t 16) (.c (.bool true)) (.t 20), none⟩] (some [2, 3, 4, 6, 21])) (
.ite (.t 21) (
 .seq (.reg false [
 ⟨some 22, none, .bld [(.int .i64 0), (.int .i64 0), (.ls 1 [])] [], none⟩,
 ⟨none, none, .st (some 3) (.t 6) (.t 22), none⟩,
 ⟨some 7, none, .mv false (.c (.int .i64 17)), none⟩] (some [6, 7])) (
 .ret)) (
 .skip))) (
.seq (.seq (.reg false [
 ⟨some 23, none, .fld 0 (.t 4), none⟩,
 ⟨some 24, none, .ld none (.t 23), none⟩,
 ⟨some 25, none, .call false 74 [.t 24], none⟩,
 ⟨some 26, none, .not (.t 25), none⟩,
 ⟨some 27, none, .mv false (.t 26), none⟩,
 ⟨some 28, some (27, false), .fld 1 (.t 4), none⟩,
 ⟨some 29, some (27, false), .ld none (.t 28), none⟩,
 ⟨some 30, some (27, false), .call false 74 [.t 29], none⟩,
 ⟨some 31, some (27, false), .not (.t 30), none⟩,
 ⟨some 32, none, .pick (.t 27) (.c (.bool true)) (.t 31), none⟩] (some [2, 3, 4, 6, 32])) (
.ite (.t 32) (
 .seq (.reg false [
 ⟨some 33, none, .bld [(.int .i64 0), (.int .i64 0), (.ls 1 [])] [], none⟩,
 ⟨none, none, .st (some 3) (.t 6) (.t 33), none⟩,
 ⟨some 7, none, .mv false (.c (.int .i64 1)), none⟩] (some [6, 7])) (
 .ret)) (
 .skip))) (
.seq (.reg false [
 ⟨some 34, none, .fld 2 (.t 4), none⟩,
 ⟨some 35, none, .ld none (.t 34), none⟩,
 ⟨some 36, none, .fld 3 (.t 4), none⟩,
 ⟨some 37, none, .ld none (.t 36), none⟩,
 ⟨some 38, none, .bin .mul .i64 (.t 35) (.t 37), none⟩,
 ⟨some 39, none, .mks 51 1 none [(.int .u8 0)] (.c (.int .i64 0)) (.t 38), none⟩,
 ⟨some 8, none, .mv false (.t 39), none⟩] (some [2, 3, 4, 6, 8])) (
.seq (.seq (.reg false [
 ⟨some 40, none, .fld 3 (.t 4), none⟩,
 ⟨some 41, none, .ld none (.t 40), none⟩,
 ⟨some 42, none, .mv false (.c (.int .i64 0)), none⟩] (some [2, 3, 4, 6, 8, 41, 42])) (
.blk 0 (
 .loop (
 .seq (.reg false [
 ⟨some 43, none, .bin .lss .i64 (.t 42) (.t 41), none⟩] (some [2, 3, 4, 6, 8, 41, 42, 43])) (
 .seq (.ite (.t 43) (
 .skip) (
 .exit 0)) (
 .seq (.blk 1 (
 .seq (.reg false [
 ⟨some 44, none, .mv false (.t 42), none⟩,
 ⟨some 9, none, .mv false (.t 44), none⟩] (some [2, 3, 4, 6, 8, 9, 41, 42])) (
 .seq (.reg false [
 ⟨some 45, none, .fld 2 (.t 4), none⟩,
 ⟨some 46, none, .ld none (.t 45), none⟩,
 ⟨some 47, none, .mv false (.c (.int .i64 0)), none⟩] (some [2, 3, 4, 6, 8, 9, 41, 42, 46, 47])) (
 .blk 2 (
 .loop (
 .seq (.reg false [
 ⟨some 48, none, .bin .lss .i64 (.t 47) (.t 46), none⟩] (some [2, 3, 4, 6, 8, 9, 41, 42, 46, 47, 48])) (
 .seq (.ite (.t 48) (
 .skip) (
 .exit 2)) (
 .seq (.blk 3 (
 .seq (.reg false [
 ⟨some 49, none, .mv false (.t 47), none⟩,
 ⟨some 10, none, .mv false (.t 49), none⟩] (some [2, 3, 4, 6, 8, 9, 10, 41, 42, 46, 47])) (
 .seq (.reg false [
 ⟨some 50, none, .mv false (.t 2), none⟩,
 ⟨some 11, none, .mv false (.t 50), none⟩] (some [2, 3, 4, 6, 8, 9, 10, 11, 41, 42, 46, 47])) (
 .seq (.seq (.reg false [
 ⟨some 51, none, .ld (some 3) (.t 3), none⟩,
 ⟨some 52, none, .fld 0 (.t 4), none⟩,
 ⟨some 53, none, .ld none (.t 52), none⟩,
 ⟨some 54, none, .mv false (.t 10), none⟩,
 ⟨some 55, none, .bin .add .i64 (.t 53) (.t 54), none⟩,
 ⟨some 56, none, .fld 1 (.t 4), none⟩,
 ⟨some 57, none, .ld none (.t 56), none⟩,
 ⟨some 58, none, .mv false (.t 9), none⟩,
 ⟨some 59, none, .bin .add .i64 (.t 57) (.t 58), none⟩,
 ⟨some 60, none, .call false 75 [(.t 51), (.t 55), (.t 59)], none⟩] (some [2, 3, 4, 6, 8, 9, 10, 11, 41, 42, 46, 47, 60])) (
 .ite (.t 60) (
 .reg false [
 ⟨some 61, none, .ld (some 3) (.t 3), none⟩,
 ⟨some 62, none, .fld 0 (.t 4), none⟩,
 ⟨some 63, none, .ld none (.t 62), none⟩,
 ⟨some 64, none, .mv false (.t 10), none⟩,
 ⟨some 65, none, .bin .add .i64 (.t 63) (.t 64), none⟩,
 ⟨some 66, none, .fld 1 (.t 4), none⟩,
 ⟨some 67, none, .ld none (.t 66), none⟩,
 ⟨some 68, none, .mv false (.t 9), none⟩,
 ⟨some 69, none, .bin .add .i64 (.t 67) (.t 68), none⟩,
 ⟨some 70, none, .call false 46 [(.t 61), (.t 65), (.t 69)], none⟩,
 ⟨some 11, none, .mv false (.t 70), none⟩] (some [2, 3, 4, 6, 8, 9, 11, 41, 42, 46, 47])) (
 .skip))) (
 .reg false [
 ⟨some 71, none, .mv false (.t 8), none⟩,
 ⟨some 72, none, .mv false (.t 11), none⟩,
 ⟨some 73, none, .bsl none 51 1 none [.t 72], none⟩,
 ⟨some 74, none, .app 51 1 1 (.t 71) (.t 73), none⟩,
 ⟨some 8, none, .mv false (.t 74), none⟩] (some [2, 3, 4, 6, 8, 9, 41, 42, 46, 47])))))) (
 .reg false [
 ⟨some 75, none, .bin .add .i64 (.t 47) (.c (.int .i64 1)), none⟩,
 ⟨some 47, none, .mv false (.t 75), none⟩] (some [2, 3, 4, 6, 8, 9, 41, 42, 46, 47])))))))))) (
 .reg false [
 ⟨some 76, none, .bin .add .i64 (.t 42) (.c (.int .i64 1)), none⟩,
 ⟨some 42, none, .mv false (.t 76), none⟩] (some [2, 3, 4, 6, 8, 41, 42])))))))) (
.seq (.reg false [
 ⟨some 77, none, .fld 2 (.t 4), none⟩,
 ⟨some 78, none, .ld none (.t 77), none⟩,
 ⟨some 79, none, .fld 3 (.t 4), none⟩,
 ⟨some 80, none, .ld none (.t 79), none⟩,
 ⟨some 81, none, .mv false (.t 8), none⟩,
 ⟨some 82, none, .bld [(.int .i64 0), (.int .i64 0), (.ls 1 [])] [(0, none, (.t 78)), (1, none, (.t 80)), (2, none, (.t 81))], none⟩,
 ⟨none, none, .st (some 3) (.t 6) (.t 82), none⟩,
 ⟨some 7, none, .mv false (.c (.int .i64 0)), none⟩] (some [6, 7])) (
.ret))))))
set_option maxRecDepth 1000000 in
theorem comp_grid_Grid_Crop : (Tryz.f17.body.bind fun code => kD Tryz.prog Tryz.f17.ntmps code c_grid_Grid_Crop) = some c_grid_Grid_Crop.bare := by kernel_rfl
def kZ : List R := [.cell 6 (some 3), .t 7]
theorem spo_grid_Grid_Crop {ds : List D} {d : D} (hn : Nat.ble ds.length 83 = true) (h : run TSpC gtab 0 c_grid_Grid_Crop (retK kZ (· = d)) ⟨env0 0 ds, []⟩) : TSp 17 ds d := k9 kI c_grid_Grid_Crop kZ (fn := Tryz.f17) (by kernel_rfl) (by kernel_rfl) comp_grid_Grid_Crop (by kernel_rfl) hn h
def c_region_Shift : C := .seq (.reg false [
 ⟨some 3, none, .box true (.t 0), none⟩,
 ⟨some 6, none, .alloc [(.ls 4 [])], none⟩] (some [1, 2, 3, 6])) (
.seq (.seq (.reg false [
 ⟨some 9, none, .mv false (.t 1), none⟩,
 ⟨some 10, none, .bin .lss .i64 (.t 9) (.c (.int .i64 (-2097152))), none⟩,
 ⟨some 11, none, .mv false (.t 10), none⟩,
 ⟨some 12, some (11, false), .mv false (.t 1), none⟩,
 ⟨some 13, some (11, false), .bin .gtr .i64 (.t 12) (.c (.int .i64 2097152)), none⟩,
 ⟨some 14, none, .pick (.t 11) (.c (.bool true)) (.t 13), none⟩,
 ⟨some 15, none, .mv false (.t 14), none⟩,
 ⟨some 16, some (15, false), .mv false (.t 2), none⟩,
 ⟨some 17, some (15, false), .bin .lss .i64 (.t 16) (.c (.int .i64 (-2097152))), none⟩,
 ⟨some 18, none, .pick (.t 15) (.c (.bool true)) (.t 17), none⟩,
 ⟨some 19, none, .mv false (.t 18), none⟩,
 ⟨some 20, some (19, false), .mv false (.t 2), none⟩,
 ⟨some 21, some (19, false), .bin .gtr .i64 (.t 20) (.c (.int .i64 2097152)), none⟩,
 ⟨some 22, none, .pick (.t 19) (.c (.bool true)) (.t 21), none⟩] (some [1, 2, 3, 6, 22])) (
.ite (.t 22) (
 .seq (.reg false [
 ⟨some 23, none, .bld [(.ls 4 [])] [], none⟩,
 ⟨none, none, .st (some 1) (.t 6) (.t 23), none⟩] (some [6])) (
 .ret)) (
 .skip))) (
.seq (.reg false [
 ⟨some 24, none, .ld (some 1) (.t 3), none⟩,
 ⟨some 25, none, .call true 76 [.t 24], none⟩,
 ⟨some 7, none, .mv false (.t 25), none⟩] (some [1, 2, 6, 7])) (
.seq (.seq (.reg false [
 ⟨some 26, none, .mv false (.t 7), none⟩,
 ⟨some 27, none, .len false (.t 26), none⟩,
 ⟨some 28, none, .mv false (.c (.int .i64 0)), none⟩] (some [1, 2, 6, 7, 27, 28])) (
.blk 0 (
 .loop (
 .seq (.reg false [
 ⟨some 29, none, .bin .lss .i64 (.t 28) (.t 27), none⟩] (some [1, 2, 6, 7, 27, 28, 29])) (
 .seq (.ite (.t 29) (
 .skip) (
 .exit 0)) (
 .seq (.blk 1 (
 .seq (.reg false [
 ⟨some 30, none, .mv false (.t 28), none⟩,
 ⟨some 8, none, .mv false (.t 30), none⟩] (some [1, 2, 6, 7, 8, 27, 28])) (
 .seq (.reg true [
 ⟨some 32, none, .mv false (.t 7), none⟩,
 ⟨some 33, none, .mv false (.t 8), none⟩,
 ⟨some 34, none, .mv false (.t 7), none⟩,
 ⟨some 35, none, .mv false (.t 8), none⟩,
 ⟨some 36, none, .mv false (.t 7), none⟩,
 ⟨some 37, none, .mv false (.t 8), none⟩,
 ⟨some 38, none, .ixs 4 (.t 36) (.t 37), none⟩,
 ⟨some 39, none, .fld 0 (.t 38), none⟩,
 ⟨some 40, none, .ld none (.t 39), none⟩,
 ⟨some 41, none, .mv false (.t 7), none⟩,
 ⟨some 42, none, .mv false (.t 8), none⟩,
 ⟨some 43, none, .ixs 4 (.t 41) (.t 42), none⟩,
 ⟨some 44, none, .fld 2 (.t 43), none⟩,
 ⟨some 45, none, .ld none (.t 44), none⟩,
 ⟨some 46, none, .mv false (.t 1), none⟩,
 ⟨some 47, none, .call false 77 [(.t 40), (.t 45), (.t 46)], none⟩,
 ⟨some 31, none, .mv false (.t 47), none⟩,
 ⟨some 48, none, .ext (.t 31) 0, none⟩,
 ⟨some 49, none, .ext (.t 31) 1, none⟩,
 ⟨some 50, none, .ixs 4 (.t 32) (.t 33), none⟩,
 ⟨some 51, none, .fld 0 (.t 50), none⟩,
 ⟨none, none, .st none (.t 51) (.t 48), none⟩,
 ⟨some 52, none, .ixs 4 (.t 34) (.t 35), none⟩,
 ⟨some 53, none, .fld 2 (.t 52), none⟩,
 ⟨none, none, .st none (.t 53) (.t 49), none⟩] (some [1, 2, 6, 7, 8, 27, 28])) (
 .reg true [
 ⟨some 55, none, .mv false (.t 7), none⟩,
 ⟨some 56, none, .mv false (.t 8), none⟩,
 ⟨some 57, none, .mv false (.t 7), none⟩,
 ⟨some 58, none, .mv false (.t 8), none⟩,
 ⟨some 59, none, .mv false (.t 7), none⟩,
 ⟨some 60, none, .mv false (.t 8), none⟩,
 ⟨some 61, none, .ixs 4 (.t 59) (.t 60), none⟩,
 ⟨some 62, none, .fld 1 (.t 61), none⟩,
 ⟨some 63, none, .ld none (.t 62), none⟩,
 ⟨some 64, none, .mv false (.t 7), none⟩,
 ⟨some 65, none, .mv false (.t 8), none⟩,
 ⟨some 66, none, .ixs 4 (.t 64) (.t 65), none⟩,
 ⟨some 67, none, .fld 3 (.t 66), none⟩,
 ⟨some 68, none, .ld none (.t 67), none⟩,
 ⟨some 69, none, .mv false (.t 2), none⟩,
 ⟨some 70, none, .call false 77 [(.t 63), (.t 68), (.t 69)], none⟩,
 ⟨some 54, none, .mv false (.t 70), none⟩,
 ⟨some 71, none, .ext (.t 54) 0, none⟩,
 ⟨some 72, none, .ext (.t 54) 1, none⟩,
 ⟨some 73, none, .ixs 4 (.t 55) (.t 56), none⟩,
 ⟨some 74, none, .fld 1 (.t 73), none⟩,
 ⟨none, none, .st none (.t 74) (.t 71), none⟩,
 ⟨some 75, none, .ixs 4 (.t 57) (.t 58), none⟩,
 ⟨some 76, none, .fld 3 (.t 75), none⟩,
 ⟨none, none, .st none (.t 76) (.t 72), none⟩] (some [1, 2, 6, 7, 27, 28]))))) (
 .reg false [
 ⟨some 77, none, .bin .add .i64 (.t 28) (.c (.int .i64 1)), none⟩,
 ⟨some 28, none, .mv false (.t 77), none⟩] (some [1, 2, 6, 7, 27, 28])))))))) (
.seq (.reg false [
 ⟨some 78, none, .mv false (.t 7), none⟩,
 ⟨some 79, none, .call true 11 [.t 78], none⟩,
 ⟨none, none, .st (some 1) (.t 6) (.t 79), none⟩] (some [6])) (
.ret)))))
set_option maxRecDepth 1000000 in
theorem comp_region_Shift : (Tryz.f18.body.bind fun code => kD Tryz.prog Tryz.f18.ntmps code c_region_Shift) = some c_region_Shift.bare := by kernel_rfl
def kS : List R := [.cell 6 (some 1)]
theorem spo_region_Shift {ds : List D} {d : D} (hn : Nat.ble ds.length 80 = true) (h : run TSpC gtab 0 c_region_Shift (retK kS (· = d)) ⟨env0 0 ds, []⟩) : TSp 18 ds d := k9 kI c_region_Shift kS (fn := Tryz.f18) (by kernel_rfl) (by kernel_rfl) comp_region_Shift (by kernel_rfl) hn h
def c_region_Within : C := .seq (.reg false [
 ⟨some 2, none, .box true (.t 0), none⟩,
 ⟨some 3, none, .box true (.t 1), none⟩,
 ⟨some 4, none, .alloc [(.ls 4 [])], none⟩] (some [2, 3, 4])) (
.seq (.reg true [
 ⟨some 5, none, .ld (some 1) (.t 2), none⟩,
 ⟨some 6, none, .ld (some 4) (.t 3), none⟩,
 ⟨some 7, none, .bsl none 45 4 (some 4) [.t 6], none⟩,
 ⟨some 8, none, .call false 11 [.t 7], none⟩,
 ⟨some 9, none, .call false 13 [(.t 5), (.t 8)], none⟩,
 ⟨none, none, .st (some 1) (.t 4) (.t 9), none⟩] (some [4])) (
.ret))
set_option maxRecDepth 1000000 in
theorem comp_region_Within : (Tryz.f19.body.bind fun code => kD Tryz.prog Tryz.f19.ntmps code c_region_Within) = some c_region_Within.bare := by kernel_rfl
def zo : List R := [.cell 4 (some 1)]
theorem spo_region_Within {ds : List D} {d : D} (hn : Nat.ble ds.length 10 = true) (h : run TSpC gtab 0 c_region_Within (retK zo (· = d)) ⟨env0 0 ds, []⟩) : TSp 19 ds d := k9 kI c_region_Within zo (fn := Tryz.f19) (by kernel_rfl) (by kernel_rfl) comp_region_Within (by kernel_rfl) hn h
def c_grid_Same : C := .seq (.reg false [
 ⟨some 2, none, .box true (.t 0), none⟩,
 ⟨some 3, none, .box true (.t 1), none⟩,
 ⟨some 4, none, .mv false (.c (.bool false)), none⟩] (some [2, 3])) (
.seq (.seq (.reg false [
 ⟨some 7, none, .fld 0 (.t 2), none⟩,
 ⟨some 8, none, .ld none (.t 7), none⟩,
 ⟨some 9, none, .fld 0 (.t 3), none⟩,
 ⟨some 10, none, .ld none (.t 9), none⟩,
 ⟨some 11, none, .bin .neq .i64 (.t 8) (.t 10), none⟩,
 ⟨some 12, none, .mv false (.t 11), none⟩,
 ⟨some 13, some (12, false), .fld 1 (.t 2), none⟩,
 ⟨some 14, some (12, false), .ld none (.t 13), none⟩,
 ⟨some 15, some (12, false), .fld 1 (.t 3), none⟩,
 ⟨some 16, some (12, false), .ld none (.t 15), none⟩,
 ⟨some 17, some (12, false), .bin .neq .i64 (.t 14) (.t 16), none⟩,
 ⟨some 18, none, .pick (.t 12) (.c (.bool true)) (.t 17), none⟩] (some [2, 3, 18])) (
.ite (.t 18) (
 .seq (.reg false [
 ⟨some 4, none, .mv false (.c (.bool false)), none⟩] (some [4])) (
 .ret)) (
 .skip))) (
.seq (.seq (.reg false [
 ⟨some 19, none, .fld 2 (.t 2), none⟩,
 ⟨some 20, none, .ld none (.t 19), none⟩,
 ⟨some 21, none, .len false (.t 20), none⟩,
 ⟨some 22, none, .mv false (.c (.int .i64 0)), none⟩] (some [3, 20, 21, 22])) (
.blk 0 (
 .loop (
 .seq (.reg false [
 ⟨some 23, none, .bin .lss .i64 (.t 22) (.t 21), none⟩] (some [3, 20, 21, 22, 23])) (
 .seq (.ite (.t 23) (
 .skip) (
 .exit 0)) (
 .seq (.blk 1 (
 .seq (.reg false [
 ⟨some 24, none, .mv false (.t 22), none⟩,
 ⟨some 25, none, .ixs 1 (.t 20) (.t 22), none⟩,
 ⟨some 26, none, .ld none (.t 25), none⟩,
 ⟨some 5, none, .mv false (.t 24), none⟩,
 ⟨some 6, none, .mv false (.t 26), none⟩] (some [3, 5, 6, 20, 21, 22])) (
 .seq (.reg false [
 ⟨some 27, none, .fld 2 (.t 3), none⟩,
 ⟨some 28, none, .ld none (.t 27), none⟩,
 ⟨some 29, none, .mv false (.t 5), none⟩,
 ⟨some 30, none, .ixs 1 (.t 28) (.t 29), none⟩,
 ⟨some 31, none, .ld none (.t 30), none⟩,
 ⟨some 32, none, .mv false (.t 6), none⟩,
 ⟨some 33, none, .bin .neq .u8 (.t 31) (.t 32), none⟩] (some [3, 20, 21, 22, 33])) (
 .ite (.t 33) (
 .seq (.reg false [
 ⟨some 4, none, .mv false (.c (.bool false)), none⟩] (some [4])) (
 .ret)) (
 .skip))))) (
 .reg false [
 ⟨some 34, none, .bin .add .i64 (.t 22) (.c (.int .i64 1)), none⟩,
 ⟨some 22, none, .mv false (.t 34), none⟩] (some [3, 20, 21, 22])))))))) (
.seq (.reg false [
 ⟨some 4, none, .mv false (.c (.bool true)), none⟩] (some [4])) (
.ret))))
set_option maxRecDepth 1000000 in
theorem comp_grid_Same : (Tryz.f20.body.bind fun code => kD Tryz.prog Tryz.f20.ntmps code c_grid_Same) = some c_grid_Same.bare := by kernel_rfl
def vh : List R := [.t 4]
theorem spo_grid_Same {ds : List D} {d : D} (hn : Nat.ble ds.length 35 = true) (h : run TSpC gtab 0 c_grid_Same (retK vh (· = d)) ⟨env0 0 ds, []⟩) : TSp 20 ds d := k9 kI c_grid_Same vh (fn := Tryz.f20) (by kernel_rfl) (by kernel_rfl) comp_grid_Same (by kernel_rfl) hn h
def c_grid_Grid_Lay : C := .seq (.reg false [
 ⟨some 5, none, .box true (.t 0), none⟩,
 ⟨some 6, none, .box true (.t 1), none⟩,
 ⟨some 7, none, .box false (.t 2), none⟩,
 ⟨some 8, none, .box false (.t 3), none⟩,
 ⟨some 9, none, .box true (.t 4), none⟩,
 ⟨some 10, none, .alloc [(.int .i64 0), (.int .i64 0), (.ls 1 [])], none⟩] (some [5, 6, 7, 8, 9, 10])) (
.seq (.seq (.reg false [
 ⟨some 12, none, .ld none (.t 7), none⟩,
 ⟨some 13, none, .call false 74 [.t 12], none⟩,
 ⟨some 14, none, .not (.t 13), none⟩,
 ⟨some 15, none, .mv false (.t 14), none⟩,
 ⟨some 16, some (15, false), .ld none (.t 8), none⟩,
 ⟨some 17, some (15, false), .call false 74 [.t 16], none⟩,
 ⟨some 18, some (15, false), .not (.t 17), none⟩,
 ⟨some 19, none, .pick (.t 15) (.c (.bool true)) (.t 18), none⟩] (some [5, 6, 7, 8, 9, 10, 19])) (
.ite (.t 19) (
 .seq (.reg false [
 ⟨some 20, none, .ld (some 3) (.t 5), none⟩,
 ⟨none, none, .st (some 3) (.t 10) (.t 20), none⟩] (some [10])) (
 .ret)) (
 .skip))) (
.seq (.reg false [
 ⟨some 21, none, .ld (some 3) (.t 5), none⟩,
 ⟨some 22, none, .call true 78 [.t 21], none⟩,
 ⟨some 11, none, .alloc [(.int .i64 0), (.int .i64 0), (.ls 1 [])], none⟩,
 ⟨none, none, .st (some 3) (.t 11) (.t 22), none⟩] (some [6, 7, 8, 9, 10, 11])) (
.seq (.reg false [
 ⟨some 23, none, .ld (some 3) (.t 11), none⟩,
 ⟨some 24, none, .ld (some 1) (.t 9), none⟩,
 ⟨some 25, none, .clo 80 [(.t 6), (.t 7), (.t 8), (.t 11)], none⟩,
 ⟨some 26, none, .call true 79 [(.t 23), (.t 24), (.t 25)], none⟩] (some [10, 11])) (
.seq (.reg false [
 ⟨some 27, none, .ld (some 3) (.t 11), none⟩,
 ⟨none, none, .st (some 3) (.t 10) (.t 27), none⟩] (some [10])) (
.ret)))))
set_option maxRecDepth 1000000 in
theorem comp_grid_Grid_Lay : (Tryz.f21.body.bind fun code => kD Tryz.prog Tryz.f21.ntmps code c_grid_Grid_Lay) = some c_grid_Grid_Lay.bare := by kernel_rfl
def qQ : List R := [.cell 10 (some 3)]
theorem spo_grid_Grid_Lay {ds : List D} {d : D} (hn : Nat.ble ds.length 28 = true) (h : run TSpC gtab 0 c_grid_Grid_Lay (retK qQ (· = d)) ⟨env0 0 ds, []⟩) : TSp 21 ds d := k9 kI c_grid_Grid_Lay qQ (fn := Tryz.f21) (by kernel_rfl) (by kernel_rfl) comp_grid_Grid_Lay (by kernel_rfl) hn h
def c_band_Same : C := .seq (.reg false [
 ⟨some 2, none, .box true (.t 0), none⟩,
 ⟨some 3, none, .box true (.t 1), none⟩,
 ⟨some 4, none, .mv false (.c (.bool false)), none⟩] (some [2, 3])) (
.seq (.reg false [
 ⟨some 5, none, .fld 0 (.t 2), none⟩,
 ⟨some 6, none, .ld none (.t 5), none⟩,
 ⟨some 7, none, .fld 0 (.t 3), none⟩,
 ⟨some 8, none, .ld none (.t 7), none⟩,
 ⟨some 9, none, .call false 81 [(.t 6), (.t 8)], none⟩,
 ⟨some 4, none, .mv false (.t 9), none⟩] (some [4])) (
.ret))
set_option maxRecDepth 1000000 in
theorem comp_band_Same : (Tryz.f22.body.bind fun code => kD Tryz.prog Tryz.f22.ntmps code c_band_Same) = some c_band_Same.bare := by kernel_rfl
def xJ : List R := [.t 4]
theorem spo_band_Same {ds : List D} {d : D} (hn : Nat.ble ds.length 10 = true) (h : run TSpC gtab 0 c_band_Same (retK xJ (· = d)) ⟨env0 0 ds, []⟩) : TSp 22 ds d := k9 kI c_band_Same xJ (fn := Tryz.f22) (by kernel_rfl) (by kernel_rfl) comp_band_Same (by kernel_rfl) hn h
def c_region_Minus : C := .seq (.reg false [
 ⟨some 2, none, .box true (.t 0), none⟩,
 ⟨some 3, none, .box true (.t 1), none⟩,
 ⟨some 4, none, .alloc [(.ls 4 [])], none⟩] (some [2, 3, 4])) (
.seq (.reg false [
 ⟨some 5, none, .bld [.nil] [(0, none, (.c (.fn 82 [])))], none⟩,
 ⟨some 6, none, .ld (some 1) (.t 2), none⟩,
 ⟨some 7, none, .ld (some 1) (.t 3), none⟩,
 ⟨some 8, none, .call false 71 [(.t 5), (.t 6), (.t 7)], none⟩,
 ⟨none, none, .st (some 1) (.t 4) (.t 8), none⟩] (some [4])) (
.ret))
set_option maxRecDepth 1000000 in
theorem comp_region_Minus : (Tryz.f23.body.bind fun code => kD Tryz.prog Tryz.f23.ntmps code c_region_Minus) = some c_region_Minus.bare := by kernel_rfl
def vw : List R := [.cell 4 (some 1)]
theorem spo_region_Minus {ds : List D} {d : D} (hn : Nat.ble ds.length 9 = true) (h : run TSpC gtab 0 c_region_Minus (retK vw (· = d)) ⟨env0 0 ds, []⟩) : TSp 23 ds d := k9 kI c_region_Minus vw (fn := Tryz.f23) (by kernel_rfl) (by kernel_rfl) comp_region_Minus (by kernel_rfl) hn h
def c_blit_Scroll : C := .seq (.reg false [
 ⟨some 5, none, .box true (.t 0), none⟩,
 ⟨some 6, none, .box true (.t 1), none⟩,
 ⟨some 7, none, .box false (.t 2), none⟩,
 ⟨some 8, none, .box false (.t 3), none⟩,
 ⟨some 9, none, .box true (.t 4), none⟩,
 ⟨some 10, none, .alloc [(.int .i64 0), (.int .i64 0), (.ls 1 [])], none⟩,
 ⟨some 11, none, .alloc [(.ls 4 [])], none⟩] (some [5, 6, 7, 8, 9, 10, 11])) (
.seq (.seq (.reg false [
 ⟨some 15, none, .ld (some 9) (.t 9), none⟩,
 ⟨some 16, none, .call false 83 [.t 15], none⟩,
 ⟨some 17, none, .bin .neq .i64 (.t 16) (.c (.int .i64 0)), none⟩] (some [5, 6, 7, 8, 9, 10, 11, 17])) (
.ite (.t 17) (
 .seq (.reg false [
 ⟨some 18, none, .ld (some 3) (.t 5), none⟩,
 ⟨some 19, none, .bld [(.ls 4 [])] [], none⟩,
 ⟨none, none, .st (some 3) (.t 10) (.t 18), some [5]⟩,
 ⟨none, none, .st (some 1) (.t 11) (.t 19), some [6]⟩] (some [10, 11])) (
 .ret)) (
 .skip))) (
.seq (.reg false [
 ⟨some 20, none, .ld (some 3) (.t 5), none⟩,
 ⟨some 21, none, .call true 84 [.t 20], none⟩,
 ⟨some 12, none, .alloc [.nil], none⟩,
 ⟨none, none, .st none (.t 12) (.t 21), none⟩] (some [5, 6, 7, 8, 9, 10, 11, 12])) (
.seq (.reg true [
 ⟨some 22, none, .ld (some 1) (.t 6), some [1]⟩,
 ⟨some 23, none, .ld none (.t 12), some [10]⟩,
 ⟨some 24, none, .callR [7, 8, 9] 85 [.t 23], none⟩,
 ⟨some 25, none, .callC 19 [(.t 22), (.t 24)], none⟩,
 ⟨some 13, none, .alloc [(.ls 4 [])], some [11]⟩,
 ⟨none, none, .st (some 1) (.t 13) (.t 25), some [11]⟩] (some [5, 7, 8, 9, 10, 11, 12, 13])) (
.seq (.seq (.reg true [
 ⟨some 26, none, .ld none (.t 7), none⟩,
 ⟨some 27, none, .ld none (.t 12), none⟩,
 ⟨some 28, none, .chk (.t 27), none⟩,
 ⟨some 29, none, .fld 0 (.t 28), none⟩,
 ⟨some 30, none, .ld none (.t 29), none⟩,
 ⟨some 31, none, .neg .i64 (.t 30), none⟩,
 ⟨some 32, none, .bin .leq .i64 (.t 26) (.t 31), none⟩,
 ⟨some 33, none, .mv false (.t 32), none⟩,
 ⟨some 34, some (33, false), .ld none (.t 7), none⟩,
 ⟨some 35, some (33, false), .ld none (.t 12), none⟩,
 ⟨some 36, some (33, false), .chk (.t 35), none⟩,
 ⟨some 37, some (33, false), .fld 0 (.t 36), none⟩,
 ⟨some 38, some (33, false), .ld none (.t 37), none⟩,
 ⟨some 39, some (33, false), .bin .geq .i64 (.t 34) (.t 38), none⟩,
 ⟨some 40, none, .pick (.t 33) (.c (.bool true)) (.t 39), none⟩,
 ⟨some 41, none, .mv false (.t 40), none⟩,
 ⟨some 42, some (41, false), .ld none (.t 8), none⟩,
 ⟨some 43, some (41, false), .ld none (.t 12), none⟩,
 ⟨some 44, some (41, false), .chk (.t 43), none⟩,
 ⟨some 45, some (41, false), .fld 1 (.t 44), none⟩,
 ⟨some 46, some (41, false), .ld none (.t 45), none⟩,
 ⟨some 47, some (41, false), .neg .i64 (.t 46), none⟩,
 ⟨some 48, some (41, false), .bin .leq .i64 (.t 42) (.t 47), none⟩,
 ⟨some 49, none, .pick (.t 41) (.c (.bool true)) (.t 48), none⟩,
 ⟨some 50, none, .mv false (.t 49), none⟩,
 ⟨some 51, some (50, false), .ld none (.t 8), none⟩,
 ⟨some 52, some (50, false), .ld none (.t 12), none⟩,
 ⟨some 53, some (50, false), .chk (.t 52), none⟩,
 ⟨some 54, some (50, false), .fld 1 (.t 53), none⟩,
 ⟨some 55, some (50, false), .ld none (.t 54), none⟩,
 ⟨some 56, some (50, false), .bin .geq .i64 (.t 51) (.t 55), none⟩,
 ⟨some 57, none, .pick (.t 50) (.c (.bool true)) (.t 56), none⟩] (some [5, 7, 8, 9, 10, 11, 12, 13, 57])) (
.ite (.t 57) (
 .seq (.reg true [
 ⟨some 58, none, .ld (some 3) (.t 5), some [0]⟩,
 ⟨some 59, none, .ld (some 1) (.t 13), some [11]⟩,
 ⟨none, none, .st (some 3) (.t 10) (.t 58), some [5]⟩,
 ⟨none, none, .st (some 1) (.t 11) (.t 59), some [6]⟩] (some [10, 11])) (
 .ret)) (
 .skip))) (
.seq (.reg false [
 ⟨some 60, none, .ld (some 1) (.t 13), none⟩,
 ⟨some 61, none, .ld none (.t 7), none⟩,
 ⟨some 62, none, .ld none (.t 8), none⟩,
 ⟨some 63, none, .call false 18 [(.t 60), (.t 61), (.t 62)], none⟩,
 ⟨some 14, none, .alloc [(.ls 4 [])], none⟩,
 ⟨none, none, .st (some 1) (.t 14) (.t 63), none⟩] (some [7, 8, 9, 10, 11, 12, 13, 14])) (
.seq (.reg true [
 ⟨some 64, none, .ld none (.t 12), none⟩,
 ⟨some 65, none, .ld (some 1) (.t 13), none⟩,
 ⟨some 66, none, .ld (some 1) (.t 14), none⟩,
 ⟨some 67, none, .call false 13 [(.t 65), (.t 66)], none⟩,
 ⟨some 68, none, .ld (some 9) (.t 9), none⟩,
 ⟨some 69, none, .clo 87 [(.t 12), (.t 7), (.t 8)], none⟩,
 ⟨some 70, none, .call true 86 [(.t 64), (.t 67), (.t 68), (.t 69)], none⟩] (some [10, 11, 12, 13, 14])) (
.seq (.reg true [
 ⟨some 71, none, .ld none (.t 12), some [10]⟩,
 ⟨some 72, none, .callR [7, 8, 9] 89 [.t 71], none⟩,
 ⟨some 73, none, .ld (some 1) (.t 13), some [11]⟩,
 ⟨some 74, none, .ld (some 1) (.t 14), some [12]⟩,
 ⟨some 75, none, .callC 23 [(.t 73), (.t 74)], none⟩,
 ⟨none, none, .st (some 3) (.t 10) (.t 72), some [5]⟩,
 ⟨none, none, .st (some 1) (.t 11) (.t 75), some [6]⟩] (some [10, 11])) (
.ret))))))))
set_option maxRecDepth 1000000 in
theorem comp_blit_Scroll : (Tryz.f24.body.bind fun code => kD Tryz.prog Tryz.f24.ntmps code c_blit_Scroll) = some c_blit_Scroll.bare := by kernel_rfl
def qo : List R := [.cell 10 (some 3), .cell 11 (some 1)]
theorem spo_blit_Scroll {ds : List D} {d : D} (hn : Nat.ble ds.length 76 = true) (h : run TSpC gtab 0 c_blit_Scroll (retK qo (· = d)) ⟨env0 0 ds, []⟩) : TSp 24 ds d := k9 kI c_blit_Scroll qo (fn := Tryz.f24) (by kernel_rfl) (by kernel_rfl) comp_blit_Scroll (by kernel_rfl) hn h
def c_grid_New : C := .seq (.reg false [
 ⟨some 6, none, .alloc [(.int .i64 0), (.int .i64 0), (.ls 1 [])], none⟩,
 ⟨some 7, none, .mv false (.c (.int .i64 0)), none⟩] (some [0, 1, 2, 6])) (
.seq (.seq (.reg false [
 ⟨some 10, none, .mv false (.t 0), none⟩,
 ⟨some 11, none, .call false 73 [.t 10], none⟩,
 ⟨some 12, none, .not (.t 11), none⟩,
 ⟨some 13, none, .mv false (.t 12), none⟩,
 ⟨some 14, some (13, false), .mv false (.t 1), none⟩,
 ⟨some 15, some (13, false), .call false 73 [.t 14], none⟩,
 ⟨some 16, some (13, false), .not (.t 15), none⟩,
 ⟨some 17, none, .pick (.t 13) (.c (.bool true)) (.t 16), none⟩] (some [0, 1, 2, 6, 17])) (
.ite (.t 17) (
 .seq (.reg false [
 ⟨some 18, none, .bld [(.int .i64 0), (.int .i64 0), (.ls 1 [])] [], none⟩,
 ⟨none, none, .st (some 3) (.t 6) (.t 18), none⟩,
 ⟨some 7, none, .mv false (.c (.int .i64 17)), none⟩] (some [6, 7])) (
 .ret)) (
 .skip))) (
.seq (.reg false [
 ⟨some 19, none, .mv false (.t 0), none⟩,
 ⟨some 20, none, .mv false (.t 1), none⟩,
 ⟨some 21, none, .bin .mul .i64 (.t 19) (.t 20), none⟩,
 ⟨some 22, none, .mks 51 1 none [(.int .u8 0)] (.t 21) (.t 21), none⟩,
 ⟨some 8, none, .mv false (.t 22), none⟩] (some [0, 1, 2, 6, 8])) (
.seq (.seq (.reg false [
 ⟨some 23, none, .mv false (.t 8), none⟩,
 ⟨some 24, none, .len false (.t 23), none⟩,
 ⟨some 25, none, .mv false (.c (.int .i64 0)), none⟩] (some [0, 1, 2, 6, 8, 24, 25])) (
.blk 0 (
 .loop (
 .seq (.reg false [
 ⟨some 26, none, .bin .lss .i64 (.t 25) (.t 24), none⟩] (some [0, 1, 2, 6, 8, 24, 25, 26])) (
 .seq (.ite (.t 26) (
 .skip) (
 .exit 0)) (
 .seq (.blk 1 (
 .seq (.reg false [
 ⟨some 27, none, .mv false (.t 25), none⟩,
 ⟨some 9, none, .mv false (.t 27), none⟩] (some [0, 1, 2, 6, 8, 9, 24, 25])) (
 .reg false [
 ⟨some 28, none, .mv false (.t 8), none⟩,
 ⟨some 29, none, .mv false (.t 9), none⟩,
 ⟨some 30, none, .mv false (.t 2), none⟩,
 ⟨some 31, none, .ixs 1 (.t 28) (.t 29), none⟩,
 ⟨none, none, .st none (.t 31) (.t 30), none⟩] (some [0, 1, 2, 6, 8, 24, 25])))) (
 .reg false [
 ⟨some 32, none, .bin .add .i64 (.t 25) (.c (.int .i64 1)), none⟩,
 ⟨some 25, none, .mv false (.t 32), none⟩] (some [0, 1, 2, 6, 8, 24, 25])))))))) (
.seq (.reg false [
 ⟨some 33, none, .mv false (.t 0), none⟩,
 ⟨some 34, none, .mv false (.t 1), none⟩,
 ⟨some 35, none, .mv false (.t 8), none⟩,
 ⟨some 36, none, .bld [(.int .i64 0), (.int .i64 0), (.ls 1 [])] [(0, none, (.t 33)), (1, none, (.t 34)), (2, none, (.t 35))], none⟩,
 ⟨none, none, .st (some 3) (.t 6) (.t 36), none⟩,
 ⟨some 7, none, .mv false (.c (.int .i64 0)), none⟩] (some [6, 7])) (
.ret)))))
set_option maxRecDepth 1000000 in
theorem comp_grid_New : (Tryz.f27.body.bind fun code => kD Tryz.prog Tryz.f27.ntmps code c_grid_New) = some c_grid_New.bare := by kernel_rfl
def vc : List R := [.cell 6 (some 3), .t 7]
theorem spo_grid_New {ds : List D} {d : D} (hn : Nat.ble ds.length 37 = true) (h : run TSpC gtab 0 c_grid_New (retK vc (· = d)) ⟨env0 0 ds, []⟩) : TSp 27 ds d := k9 kI c_grid_New vc (fn := Tryz.f27) (by kernel_rfl) (by kernel_rfl) comp_grid_New (by kernel_rfl) hn h
def c_grid_Grid_At : C := .seq (.reg false [
 ⟨some 3, none, .box true (.t 0), none⟩,
 ⟨some 6, none, .mv false (.c (.int .u8 0)), none⟩] (some [1, 2, 3])) (
.seq (.seq (.reg false [
 ⟨some 7, none, .ld (some 3) (.t 3), none⟩,
 ⟨some 8, none, .mv false (.t 1), none⟩,
 ⟨some 9, none, .mv false (.t 2), none⟩,
 ⟨some 10, none, .call false 75 [(.t 7), (.t 8), (.t 9)], none⟩,
 ⟨some 11, none, .not (.t 10), none⟩] (some [1, 2, 3, 11])) (
.ite (.t 11) (
 .seq (.reg false [
 ⟨some 6, none, .mv false (.c (.int .u8 0)), none⟩] (some [6])) (
 .ret)) (
 .skip))) (
.seq (.reg false [
 ⟨some 12, none, .fld 2 (.t 3), none⟩,
 ⟨some 13, none, .ld none (.t 12), none⟩,
 ⟨some 14, none, .mv false (.t 2), none⟩,
 ⟨some 15, none, .fld 0 (.t 3), none⟩,
 ⟨some 16, none, .ld none (.t 15), none⟩,
 ⟨some 17, none, .bin .mul .i64 (.t 14) (.t 16), none⟩,
 ⟨some 18, none, .mv false (.t 1), none⟩,
 ⟨some 19, none, .bin .add .i64 (.t 17) (.t 18), none⟩,
 ⟨some 20, none, .ixs 1 (.t 13) (.t 19), none⟩,
 ⟨some 21, none, .ld none (.t 20), none⟩,
 ⟨some 6, none, .mv false (.t 21), none⟩] (some [6])) (
.ret)))
set_option maxRecDepth 1000000 in
theorem comp_grid_Grid_At : (Tryz.f46.body.bind fun code => kD Tryz.prog Tryz.f46.ntmps code c_grid_Grid_At) = some c_grid_Grid_At.bare := by kernel_rfl
def zF : List R := [.t 6]
theorem spo_grid_Grid_At {ds : List D} {d : D} (hn : Nat.ble ds.length 22 = true) (h : run TSpC gtab 0 c_grid_Grid_At (retK zF (· = d)) ⟨env0 0 ds, []⟩) : TSp 46 ds d := k9 kI c_grid_Grid_At zF (fn := Tryz.f46) (by kernel_rfl) (by kernel_rfl) comp_grid_Grid_At (by kernel_rfl) hn h
def c_grid_Grid_Set : C := .seq (.reg false [
 ⟨some 4, none, .box true (.t 0), none⟩,
 ⟨some 8, none, .alloc [(.int .i64 0), (.int .i64 0), (.ls 1 [])], none⟩] (some [1, 2, 3, 4, 8])) (
.seq (.seq (.reg false [
 ⟨some 10, none, .ld (some 3) (.t 4), none⟩,
 ⟨some 11, none, .mv false (.t 1), none⟩,
 ⟨some 12, none, .mv false (.t 2), none⟩,
 ⟨some 13, none, .call false 75 [(.t 10), (.t 11), (.t 12)], none⟩,
 ⟨some 14, none, .not (.t 13), none⟩] (some [1, 2, 3, 4, 8, 14])) (
.ite (.t 14) (
 .seq (.reg false [
 ⟨some 15, none, .ld (some 3) (.t 4), none⟩,
 ⟨none, none, .st (some 3) (.t 8) (.t 15), none⟩] (some [8])) (
 .ret)) (
 .skip))) (
.seq (.reg false [
 ⟨some 16, none, .ld (some 3) (.t 4), none⟩,
 ⟨some 17, none, .call true 78 [.t 16], none⟩,
 ⟨some 9, none, .alloc [(.int .i64 0), (.int .i64 0), (.ls 1 [])], none⟩,
 ⟨none, none, .st (some 3) (.t 9) (.t 17), none⟩] (some [1, 2, 3, 8, 9])) (
.seq (.reg false [
 ⟨some 18, none, .fld 2 (.t 9), none⟩,
 ⟨some 19, none, .ld none (.t 18), none⟩,
 ⟨some 20, none, .mv false (.t 2), none⟩,
 ⟨some 21, none, .fld 0 (.t 9), none⟩,
 ⟨some 22, none, .ld none (.t 21), none⟩,
 ⟨some 23, none, .bin .mul .i64 (.t 20) (.t 22), none⟩,
 ⟨some 24, none, .mv false (.t 1), none⟩,
 ⟨some 25, none, .bin .add .i64 (.t 23) (.t 24), none⟩,
 ⟨some 26, none, .mv false (.t 3), none⟩,
 ⟨some 27, none, .ixs 1 (.t 19) (.t 25), none⟩,
 ⟨none, none, .st none (.t 27) (.t 26), none⟩] (some [8, 9])) (
.seq (.reg false [
 ⟨some 28, none, .ld (some 3) (.t 9), none⟩,
 ⟨none, none, .st (some 3) (.t 8) (.t 28), none⟩] (some [8])) (
.ret)))))
set_option maxRecDepth 1000000 in
theorem comp_grid_Grid_Set : (Tryz.f56.body.bind fun code => kD Tryz.prog Tryz.f56.ntmps code c_grid_Grid_Set) = some c_grid_Grid_Set.bare := by kernel_rfl
def q9 : List R := [.cell 8 (some 3)]
theorem spo_grid_Grid_Set {ds : List D} {d : D} (hn : Nat.ble ds.length 29 = true) (h : run TSpC gtab 0 c_grid_Grid_Set (retK q9 (· = d)) ⟨env0 0 ds, []⟩) : TSp 56 ds d := k9 kI c_grid_Grid_Set q9 (fn := Tryz.f56) (by kernel_rfl) (by kernel_rfl) comp_grid_Grid_Set (by kernel_rfl) hn h
def c_grid_Grid_Row : C := .seq (.reg false [
 ⟨some 2, none, .box true (.t 0), none⟩,
 ⟨some 4, none, .mv false (.c (.str [])), none⟩] (some [1, 2])) (
.seq (.seq (.reg false [
 ⟨some 8, none, .mv false (.t 1), none⟩,
 ⟨some 9, none, .bin .lss .i64 (.t 8) (.c (.int .i64 0)), none⟩,
 ⟨some 10, none, .mv false (.t 9), none⟩,
 ⟨some 11, some (10, false), .mv false (.t 1), none⟩,
 ⟨some 12, some (10, false), .fld 1 (.t 2), none⟩,
 ⟨some 13, some (10, false), .ld none (.t 12), none⟩,
 ⟨some 14, some (10, false), .bin .geq .i64 (.t 11) (.t 13), none⟩,
 ⟨some 15, none, .pick (.t 10) (.c (.bool true)) (.t 14), none⟩] (some [1, 2, 15])) (
.ite (.t 15) (
 .seq (.reg false [
 ⟨some 4, none, .mv false (.c (.str [])), none⟩] (some [4])) (
 .ret)) (
 .skip))) (
.seq (.reg false [
 ⟨some 16, none, .fld 0 (.t 2), none⟩,
 ⟨some 17, none, .ld none (.t 16), none⟩,
 ⟨some 18, none, .mks 5 1 none [(.int .u8 0)] (.c (.int .i64 0)) (.t 17), none⟩,
 ⟨some 5, none, .mv false (.t 18), none⟩] (some [1, 2, 5])) (
.seq (.seq (.reg false [
 ⟨some 19, none, .fld 2 (.t 2), none⟩,
 ⟨some 20, none, .ld none (.t 19), none⟩,
 ⟨some 21, none, .mv false (.t 1), none⟩,
 ⟨some 22, none, .fld 0 (.t 2), none⟩,
 ⟨some 23, none, .ld none (.t 22), none⟩,
 ⟨some 24, none, .bin .mul .i64 (.t 21) (.t 23), none⟩,
 ⟨some 25, none, .mv false (.t 1), none⟩,
 ⟨some 26, none, .bin .add .i64 (.t 25) (.c (.int .i64 1)), none⟩,
 ⟨some 27, none, .fld 0 (.t 2), none⟩,
 ⟨some 28, none, .ld none (.t 27), none⟩,
 ⟨some 29, none, .bin .mul .i64 (.t 26) (.t 28), none⟩,
 ⟨some 30, none, .sls false 1 (.t 20) (some (.t 24)) (some (.t 29)), none⟩,
 ⟨some 31, none, .len false (.t 30), none⟩,
 ⟨some 32, none, .mv false (.c (.int .i64 0)), none⟩] (some [5, 30, 31, 32])) (
.blk 0 (
 .loop (
 .seq (.reg false [
 ⟨some 33, none, .bin .lss .i64 (.t 32) (.t 31), none⟩] (some [5, 30, 31, 32, 33])) (
 .seq (.ite (.t 33) (
 .skip) (
 .exit 0)) (
 .seq (.blk 1 (
 .seq (.reg false [
 ⟨some 34, none, .ixs 1 (.t 30) (.t 32), none⟩,
 ⟨some 35, none, .ld none (.t 34), none⟩,
 ⟨some 7, none, .mv false (.t 35), none⟩] (some [5, 7, 30, 31, 32])) (
 .reg false [
 ⟨some 36, none, .mv false (.t 5), none⟩,
 ⟨some 37, none, .mv false (.t 7), none⟩,
 ⟨some 38, none, .bsl none 5 1 none [.t 37], none⟩,
 ⟨some 39, none, .app 5 1 1 (.t 36) (.t 38), none⟩,
 ⟨some 5, none, .mv false (.t 39), none⟩] (some [5, 30, 31, 32])))) (
 .reg false [
 ⟨some 40, none, .bin .add .i64 (.t 32) (.c (.int .i64 1)), none⟩,
 ⟨some 32, none, .mv false (.t 40), none⟩] (some [5, 30, 31, 32])))))))) (
.seq (.reg false [
 ⟨some 41, none, .mv false (.t 5), none⟩,
 ⟨some 42, none, .b2s (.t 41), none⟩,
 ⟨some 4, none, .mv false (.t 42), none⟩] (some [4])) (
.ret)))))
set_option maxRecDepth 1000000 in
theorem comp_grid_Grid_Row : (Tryz.f57.body.bind fun code => kD Tryz.prog Tryz.f57.ntmps code c_grid_Grid_Row) = some c_grid_Grid_Row.bare := by kernel_rfl
def za : List R := [.t 4]
theorem spo_grid_Grid_Row {ds : List D} {d : D} (hn : Nat.ble ds.length 43 = true) (h : run TSpC gtab 0 c_grid_Grid_Row (retK za (· = d)) ⟨env0 0 ds, []⟩) : TSp 57 ds d := k9 kI c_grid_Grid_Row za (fn := Tryz.f57) (by kernel_rfl) (by kernel_rfl) comp_grid_Grid_Row (by kernel_rfl) hn h
def c_band_counts : C := .seq (.reg false [
 ⟨some 1, none, .box true (.t 0), none⟩,
 ⟨some 2, none, .mv false (.c (.bool false)), none⟩] (some [1])) (
.seq (.reg false [
 ⟨some 3, none, .fld 0 (.t 1), none⟩,
 ⟨some 4, none, .ld none (.t 3), none⟩,
 ⟨some 5, none, .fld 2 (.t 1), none⟩,
 ⟨some 6, none, .ld none (.t 5), none⟩,
 ⟨some 7, none, .call false 121 [(.t 4), (.t 6)], none⟩,
 ⟨some 8, none, .mv false (.t 7), none⟩,
 ⟨some 9, some (8, true), .fld 1 (.t 1), none⟩,
 ⟨some 10, some (8, true), .ld none (.t 9), none⟩,
 ⟨some 11, some (8, true), .fld 3 (.t 1), none⟩,
 ⟨some 12, some (8, true), .ld none (.t 11), none⟩,
 ⟨some 13, some (8, true), .call false 121 [(.t 10), (.t 12)], none⟩,
 ⟨some 14, none, .pick (.t 8) (.t 13) (.c (.bool false)), none⟩,
 ⟨some 2, none, .mv false (.t 14), none⟩] (some [2])) (
.ret))
set_option maxRecDepth 1000000 in
theorem comp_band_counts : (Tryz.f58.body.bind fun code => kD Tryz.prog Tryz.f58.ntmps code c_band_counts) = some c_band_counts.bare := by kernel_rfl
def zR : List R := [.t 2]
theorem spo_band_counts {ds : List D} {d : D} (hn : Nat.ble ds.length 15 = true) (h : run TSpC gtab 0 c_band_counts (retK zR (· = d)) ⟨env0 0 ds, []⟩) : TSp 58 ds d := k9 kI c_band_counts zR (fn := Tryz.f58) (by kernel_rfl) (by kernel_rfl) comp_band_counts (by kernel_rfl) hn h
def c_band_edges : C := .seq (.reg false [
 ⟨some 2, none, .nilS 3 1, none⟩] (some [0])) (
.seq (.reg false [
 ⟨some 6, none, .mv false (.t 0), none⟩,
 ⟨some 7, none, .len false (.t 6), none⟩,
 ⟨some 8, none, .bin .mul .i64 (.c (.int .i64 2)) (.t 7), none⟩,
 ⟨some 9, none, .mks 3 1 none [(.int .i64 0)] (.c (.int .i64 0)) (.t 8), none⟩,
 ⟨some 3, none, .mv false (.t 9), none⟩] (some [0, 3])) (
.seq (.seq (.reg false [
 ⟨some 10, none, .mv false (.t 0), none⟩,
 ⟨some 11, none, .len false (.t 10), none⟩,
 ⟨some 12, none, .mv false (.c (.int .i64 0)), none⟩] (some [3, 10, 11, 12])) (
.blk 0 (
 .loop (
 .seq (.reg false [
 ⟨some 13, none, .bin .lss .i64 (.t 12) (.t 11), none⟩] (some [3, 10, 11, 12, 13])) (
 .seq (.ite (.t 13) (
 .skip) (
 .exit 0)) (
 .seq (.blk 1 (
 .seq (.reg false [
 ⟨some 14, none, .ixs 4 (.t 10) (.t 12), none⟩,
 ⟨some 15, none, .ld (some 4) (.t 14), none⟩,
 ⟨some 5, none, .alloc [(.int .i64 0), (.int .i64 0), (.int .i64 0), (.int .i64 0)], none⟩,
 ⟨none, none, .st (some 4) (.t 5) (.t 15), none⟩] (some [3, 5, 10, 11, 12])) (
 .reg false [
 ⟨some 16, none, .mv false (.t 3), none⟩,
 ⟨some 17, none, .fld 1 (.t 5), none⟩,
 ⟨some 18, none, .ld none (.t 17), none⟩,
 ⟨some 19, none, .fld 1 (.t 5), none⟩,
 ⟨some 20, none, .ld none (.t 19), none⟩,
 ⟨some 21, none, .fld 3 (.t 5), none⟩,
 ⟨some 22, none, .ld none (.t 21), none⟩,
 ⟨some 23, none, .bin .add .i64 (.t 20) (.t 22), none⟩,
 ⟨some 24, none, .bsl none 3 1 none [(.t 18), (.t 23)], none⟩,
 ⟨some 25, none, .app 3 1 8 (.t 16) (.t 24), none⟩,
 ⟨some 3, none, .mv false (.t 25), none⟩] (some [3, 10, 11, 12])))) (
 .reg false [
 ⟨some 26, none, .bin .add .i64 (.t 12) (.c (.int .i64 1)), none⟩,
 ⟨some 12, none, .mv false (.t 26), none⟩] (some [3, 10, 11, 12])))))))) (
.seq (.reg false [
 ⟨some 27, none, .mv false (.t 3), none⟩,
 ⟨some 28, none, .call true 125 [.t 27], none⟩] (some [3])) (
.seq (.reg false [
 ⟨some 29, none, .mv false (.t 3), none⟩,
 ⟨some 30, none, .call true 126 [.t 29], none⟩,
 ⟨some 2, none, .mv false (.t 30), none⟩] (some [2])) (
.ret)))))
set_option maxRecDepth 1000000 in
theorem comp_band_edges : (Tryz.f63.body.bind fun code => kD Tryz.prog Tryz.f63.ntmps code c_band_edges) = some c_band_edges.bare := by kernel_rfl
def zj : List R := [.t 2]
theorem spm_band_edges {ds : List D} {d : D} {bx bx' : List Ent} (hn : Nat.ble ds.length 31 = true) (h : run TSpC gtab (jZ bx) c_band_edges (retG zj (fun d1 bx1 => Rt (jZ bx) bx1 d1 d bx')) ⟨env0 0 ds, bx⟩) : TSpM 63 ds bx d bx' := qS kI c_band_edges zj (fn := Tryz.f63) (by kernel_rfl) (by kernel_rfl) comp_band_edges (by kernel_rfl) hn h
def c_slices_DeleteFunc_api_Rect_api_Rect : C := .seq (.reg false [
 ⟨some 4, none, .nilS 45 4, none⟩] (some [0, 1])) (
.seq (.reg false [
 ⟨some 8, none, .mv false (.t 0), none⟩,
 ⟨some 9, none, .mv false (.t 1), none⟩,
 ⟨some 10, none, .call false 127 [(.t 8), (.t 9)], none⟩,
 ⟨some 5, none, .mv false (.t 10), none⟩] (some [0, 1, 5])) (
.seq (.seq (.reg false [
 ⟨some 11, none, .mv false (.t 5), none⟩,
 ⟨some 12, none, .bin .eql .i64 (.t 11) (.c (.int .i64 (-1))), none⟩] (some [0, 1, 5, 12])) (
.ite (.t 12) (
 .seq (.reg false [
 ⟨some 13, none, .mv false (.t 0), none⟩,
 ⟨some 4, none, .mv false (.t 13), none⟩] (some [4])) (
 .ret)) (
 .skip))) (
.seq (.seq (.reg false [
 ⟨some 14, none, .mv false (.t 5), none⟩,
 ⟨some 15, none, .bin .add .i64 (.t 14) (.c (.int .i64 1)), none⟩,
 ⟨some 6, none, .mv false (.t 15), none⟩] (some [0, 1, 5, 6])) (
.blk 0 (
 .loop (
 .seq (.seq (.reg false [
 ⟨some 16, none, .mv false (.t 6), none⟩,
 ⟨some 17, none, .mv false (.t 0), none⟩,
 ⟨some 18, none, .len false (.t 17), none⟩,
 ⟨some 19, none, .bin .lss .i64 (.t 16) (.t 18), none⟩] (some [0, 1, 5, 6, 19])) (
 .ite (.t 19) (
 .skip) (
 .exit 0))) (
 .seq (.blk 1 (
 .seq (.reg false [
 ⟨some 22, none, .mv false (.t 0), none⟩,
 ⟨some 23, none, .mv false (.t 6), none⟩,
 ⟨some 24, none, .ixs 4 (.t 22) (.t 23), none⟩,
 ⟨some 25, none, .ld (some 4) (.t 24), none⟩,
 ⟨some 7, none, .alloc [(.int .i64 0), (.int .i64 0), (.int .i64 0), (.int .i64 0)], none⟩,
 ⟨none, none, .st (some 4) (.t 7) (.t 25), none⟩] (some [0, 1, 5, 6, 7])) (
 .seq (.reg false [
 ⟨some 26, none, .mv false (.t 1), none⟩,
 ⟨some 27, none, .ld (some 4) (.t 7), none⟩,
 ⟨some 28, none, .callv false (.t 26) [.t 27], none⟩,
 ⟨some 29, none, .not (.t 28), none⟩] (some [0, 1, 5, 6, 7, 29])) (
 .ite (.t 29) (
 .seq (.reg false [
 ⟨some 30, none, .mv false (.t 0), none⟩,
 ⟨some 31, none, .mv false (.t 5), none⟩,
 ⟨some 32, none, .ld (some 4) (.t 7), none⟩,
 ⟨some 33, none, .ixs 4 (.t 30) (.t 31), none⟩,
 ⟨none, none, .st (some 4) (.t 33) (.t 32), none⟩] (some [0, 1, 5, 6])) (
 .reg false [
 ⟨some 34, none, .mv false (.t 5), none⟩,
 ⟨some 35, none, .bin .add .i64 (.t 34) (.c (.int .i64 1)), none⟩,
 ⟨some 5, none, .mv false (.t 35), none⟩] (some [0, 1, 5, 6]))) (
 .skip))))) (
 .reg false [
 ⟨some 20, none, .mv false (.t 6), none⟩,
 ⟨some 21, none, .bin .add .i64 (.t 20) (.c (.int .i64 1)), none⟩,
 ⟨some 6, none, .mv false (.t 21), none⟩] (some [0, 1, 5, 6]))))))) (
.seq (.reg false [
 ⟨some 36, none, .mv false (.t 0), none⟩,
 ⟨some 37, none, .mv false (.t 5), none⟩,
 ⟨some 38, none, .prm false false (.sub 40 true false) [(.t 36), (.t 37)], none⟩,
 ⟨none, none, .prm false true (.clr 40) [.t 38], none⟩] (some [0, 5])) (
.seq (.reg false [
 ⟨some 39, none, .mv false (.t 0), none⟩,
 ⟨some 40, none, .mv false (.t 5), none⟩,
 ⟨some 41, none, .prm false true (.trc 40) [(.t 39), (.t 40)], none⟩,
 ⟨some 4, none, .mv false (.t 41), none⟩] (some [4])) (
.ret))))))
set_option maxRecDepth 1000000 in
theorem zu : (Tryz.f64.body.bind fun code => kD Tryz.prog Tryz.f64.ntmps code c_slices_DeleteFunc_api_Rect_api_Rect) = some c_slices_DeleteFunc_api_Rect_api_Rect.bare := by kernel_rfl
def kw : List R := [.t 4]
theorem zz {ds : List D} {d : D} {bx bx' : List Ent} (hn : Nat.ble ds.length 42 = true) (h : run TSpC gtab (jZ bx) c_slices_DeleteFunc_api_Rect_api_Rect (retG kw (fun d1 bx1 => Rt (jZ bx) bx1 d1 d bx')) ⟨env0 0 ds, bx⟩) : TSpM 64 ds bx d bx' := qS kI c_slices_DeleteFunc_api_Rect_api_Rect kw (fn := Tryz.f64) (by kernel_rfl) (by kernel_rfl) zu (by kernel_rfl) hn h
def c_band_Of_2 : C := .seq (.reg false [
 ⟨some 2, none, .box true (.t 0), none⟩,
 ⟨some 3, none, .mv false (.c (.bool false)), none⟩] (some [1, 2])) (
.seq (.reg false [
 ⟨some 4, none, .fld 1 (.t 2), none⟩,
 ⟨some 5, none, .ld none (.t 4), none⟩,
 ⟨some 6, none, .fld 3 (.t 2), none⟩,
 ⟨some 7, none, .ld none (.t 6), none⟩,
 ⟨some 8, none, .bin .add .i64 (.t 5) (.t 7), none⟩,
 ⟨some 9, none, .ld none (.t 1), none⟩,
 ⟨some 10, none, .bin .leq .i64 (.t 8) (.t 9), none⟩,
 ⟨some 3, none, .mv false (.t 10), none⟩] (some [3])) (
.ret))
set_option maxRecDepth 1000000 in
theorem comp_band_Of_2 : (Tryz.f65.body.bind fun code => kD Tryz.prog Tryz.f65.ntmps code c_band_Of_2) = some c_band_Of_2.bare := by kernel_rfl
def r_band_Of_2 : List R := [.t 3]
theorem spm_band_Of_2 {ds : List D} {d : D} {bx bx' : List Ent} (hn : Nat.ble ds.length 11 = true) (h : run TSpC gtab (jZ bx) c_band_Of_2 (retG r_band_Of_2 (fun d1 bx1 => Rt (jZ bx) bx1 d1 d bx')) ⟨env0 0 ds, bx⟩) : TSpM 65 ds bx d bx' := qS kI c_band_Of_2 r_band_Of_2 (fn := Tryz.f65) (by kernel_rfl) (by kernel_rfl) comp_band_Of_2 (by kernel_rfl) hn h
def c_band_spans : C := .seq (.reg false [
 ⟨some 1, none, .box false (.t 0), none⟩,
 ⟨some 2, none, .mv false (.c .nil), none⟩] (some [1])) (
.seq (.reg false [
 ⟨some 3, none, .clo 128 [.t 1], none⟩,
 ⟨some 2, none, .mv false (.t 3), none⟩] (some [2])) (
.ret))
set_option maxRecDepth 1000000 in
theorem comp_band_spans : (Tryz.f67.body.bind fun code => kD Tryz.prog Tryz.f67.ntmps code c_band_spans) = some c_band_spans.bare := by kernel_rfl
def yq : List R := [.t 2]
theorem spm_band_spans {ds : List D} {d : D} {bx bx' : List Ent} (hn : Nat.ble ds.length 4 = true) (h : run TSpC gtab (jZ bx) c_band_spans (retG yq (fun d1 bx1 => Rt (jZ bx) bx1 d1 d bx')) ⟨env0 0 ds, bx⟩) : TSpM 67 ds bx d bx' := qS kI c_band_spans yq (fn := Tryz.f67) (by kernel_rfl) (by kernel_rfl) comp_band_spans (by kernel_rfl) hn h
def c_band_alike : C := .seq (.reg false [
 ⟨some 4, none, .mv false (.c (.bool false)), none⟩] (some [0, 1])) (
.seq (.reg false [
 ⟨some 5, none, .mv false (.t 0), none⟩,
 ⟨some 6, none, .len false (.t 5), none⟩,
 ⟨some 7, none, .bin .gtr .i64 (.t 6) (.c (.int .i64 0)), none⟩,
 ⟨some 8, none, .mv false (.t 7), none⟩,
 ⟨some 9, some (8, true), .mv false (.t 0), none⟩,
 ⟨some 10, some (8, true), .mv false (.t 1), none⟩,
 ⟨some 11, some (8, true), .call false 129 [(.t 9), (.t 10), (.c (.fn 130 []))], none⟩,
 ⟨some 12, none, .pick (.t 8) (.t 11) (.c (.bool false)), none⟩,
 ⟨some 4, none, .mv false (.t 12), none⟩] (some [4])) (
.ret))
set_option maxRecDepth 1000000 in
theorem comp_band_alike : (Tryz.f68.body.bind fun code => kD Tryz.prog Tryz.f68.ntmps code c_band_alike) = some c_band_alike.bare := by kernel_rfl
def xw : List R := [.t 4]
theorem spo_band_alike {ds : List D} {d : D} (hn : Nat.ble ds.length 13 = true) (h : run TSpC gtab 0 c_band_alike (retK xw (· = d)) ⟨env0 0 ds, []⟩) : TSp 68 ds d := k9 kI c_band_alike xw (fn := Tryz.f68) (by kernel_rfl) (by kernel_rfl) comp_band_alike (by kernel_rfl) hn h
def c_slices_Clip_api_Rect_api_Rect : C := .seq (.reg false [
 ⟨some 2, none, .nilS 45 4, none⟩] (some [0])) (
.seq (.reg false [
 ⟨some 3, none, .mv false (.t 0), none⟩,
 ⟨some 4, none, .mv false (.t 0), none⟩,
 ⟨some 5, none, .len false (.t 4), none⟩,
 ⟨some 6, none, .mv false (.t 0), none⟩,
 ⟨some 7, none, .len false (.t 6), none⟩,
 ⟨some 8, none, .prm false false (.clp 40) [(.t 3), (.t 5), (.t 7)], none⟩,
 ⟨some 2, none, .mv false (.t 8), none⟩] (some [2])) (
.ret))
set_option maxRecDepth 1000000 in
theorem vd : (Tryz.f69.body.bind fun code => kD Tryz.prog Tryz.f69.ntmps code c_slices_Clip_api_Rect_api_Rect) = some c_slices_Clip_api_Rect_api_Rect.bare := by kernel_rfl
def qk : List R := [.t 2]
theorem vl {ds : List D} {d : D} (hn : Nat.ble ds.length 9 = true) (h : run TSpC gtab 0 c_slices_Clip_api_Rect_api_Rect (retK qk (· = d)) ⟨env0 0 ds, []⟩) : TSp 69 ds d := k9 kI c_slices_Clip_api_Rect_api_Rect qk (fn := Tryz.f69) (by kernel_rfl) (by kernel_rfl) vd (by kernel_rfl) hn h
def c_region_Meet_1 : C := .seq (.reg false [
 ⟨some 4, none, .mv false (.c (.bool false)), none⟩] (some [0, 1])) (
.seq (.reg false [
 ⟨some 5, none, .mv false (.t 0), none⟩,
 ⟨some 6, none, .mv false (.t 5), none⟩,
 ⟨some 7, some (6, true), .mv false (.t 1), none⟩,
 ⟨some 8, none, .pick (.t 6) (.t 7) (.c (.bool false)), none⟩,
 ⟨some 4, none, .mv false (.t 8), none⟩] (some [4])) (
.ret))
set_option maxRecDepth 1000000 in
theorem comp_region_Meet_1 : (Tryz.f70.body.bind fun code => kD Tryz.prog Tryz.f70.ntmps code c_region_Meet_1) = some c_region_Meet_1.bare := by kernel_rfl
def xl : List R := [.t 4]
theorem spo_region_Meet_1 {ds : List D} {d : D} (hn : Nat.ble ds.length 9 = true) (h : run TSpC gtab 0 c_region_Meet_1 (retK xl (· = d)) ⟨env0 0 ds, []⟩) : TSp 70 ds d := k9 kI c_region_Meet_1 xl (fn := Tryz.f70) (by kernel_rfl) (by kernel_rfl) comp_region_Meet_1 (by kernel_rfl) hn h
def c_region_rule_join : C := .seq (.reg false [
 ⟨some 3, none, .box true (.t 0), none⟩,
 ⟨some 4, none, .box true (.t 1), none⟩,
 ⟨some 5, none, .box true (.t 2), none⟩,
 ⟨some 6, none, .alloc [(.ls 4 [])], none⟩] (some [3, 4, 5, 6])) (
.seq (.reg true [
 ⟨some 22, none, .ld (some 1) (.t 4), none⟩,
 ⟨some 23, none, .call false 76 [.t 22], none⟩,
 ⟨some 24, none, .ld (some 1) (.t 5), none⟩,
 ⟨some 25, none, .call false 76 [.t 24], none⟩,
 ⟨some 7, none, .mv false (.t 23), none⟩,
 ⟨some 8, none, .mv false (.t 25), none⟩] (some [3, 6, 7, 8])) (
.seq (.reg false [
 ⟨some 26, none, .mv false (.t 7), none⟩,
 ⟨some 27, none, .mv false (.t 8), none⟩,
 ⟨some 28, none, .bsl none 40 1 none [(.t 26), (.t 27)], none⟩,
 ⟨some 29, none, .call false 131 [(.c (.fn 132 [])), (.t 28)], none⟩,
 ⟨some 9, none, .mv false (.t 29), none⟩] (some [3, 6, 7, 8, 9])) (
.seq (.reg false [
 ⟨some 30, none, .mv false (.t 7), none⟩,
 ⟨some 31, none, .bld [(.ls 4 [])] [(0, none, (.t 30))], none⟩,
 ⟨some 32, none, .mv false (.t 8), none⟩,
 ⟨some 33, none, .bld [(.ls 4 [])] [(0, none, (.t 32))], none⟩,
 ⟨some 10, none, .alloc [(.ls 4 [])], none⟩,
 ⟨some 11, none, .alloc [(.ls 4 [])], none⟩,
 ⟨none, none, .st (some 1) (.t 10) (.t 31), none⟩,
 ⟨none, none, .st (some 1) (.t 11) (.t 33), none⟩] (some [3, 6, 9, 10, 11])) (
.seq (.reg false [
 ⟨some 12, none, .nilS 45 4, none⟩] (some [3, 6, 9, 10, 11, 12])) (
.seq (.seq (.reg false [
 ⟨some 13, none, .mv false (.c (.int .i64 0)), none⟩] (some [3, 6, 9, 10, 11, 12, 13])) (
.blk 0 (
 .loop (
 .seq (.seq (.reg false [
 ⟨some 34, none, .mv false (.t 13), none⟩,
 ⟨some 35, none, .bin .add .i64 (.t 34) (.c (.int .i64 1)), none⟩,
 ⟨some 36, none, .mv false (.t 9), none⟩,
 ⟨some 37, none, .len false (.t 36), none⟩,
 ⟨some 38, none, .bin .lss .i64 (.t 35) (.t 37), none⟩] (some [3, 6, 9, 10, 11, 12, 13, 38])) (
 .ite (.t 38) (
 .skip) (
 .exit 0))) (
 .seq (.blk 1 (
 .seq (.reg true [
 ⟨some 41, none, .mv false (.t 9), none⟩,
 ⟨some 42, none, .mv false (.t 13), none⟩,
 ⟨some 43, none, .ixs 1 (.t 41) (.t 42), none⟩,
 ⟨some 44, none, .ld none (.t 43), none⟩,
 ⟨some 45, none, .mv false (.t 9), none⟩,
 ⟨some 46, none, .mv false (.t 13), none⟩,
 ⟨some 47, none, .bin .add .i64 (.t 46) (.c (.int .i64 1)), none⟩,
 ⟨some 48, none, .ixs 1 (.t 45) (.t 47), none⟩,
 ⟨some 49, none, .ld none (.t 48), none⟩,
 ⟨some 50, none, .mv false (.t 9), none⟩,
 ⟨some 51, none, .mv false (.t 13), none⟩,
 ⟨some 52, none, .ixs 1 (.t 50) (.t 51), none⟩,
 ⟨some 53, none, .ld none (.t 52), none⟩,
 ⟨some 54, none, .bin .sub .i64 (.t 49) (.t 53), none⟩,
 ⟨some 14, none, .mv false (.t 44), none⟩,
 ⟨some 15, none, .mv false (.t 54), none⟩] (some [3, 6, 9, 10, 11, 12, 13, 14, 15])) (
 .seq (.reg false [
 ⟨some 55, none, .mv false (.t 14), none⟩,
 ⟨some 56, none, .call true 133 [(.t 10), (.t 55)], none⟩,
 ⟨some 57, none, .mv false (.t 14), none⟩,
 ⟨some 58, none, .call true 133 [(.t 11), (.t 57)], none⟩,
 ⟨some 16, none, .alloc [(.ls 4 [])], none⟩,
 ⟨some 17, none, .alloc [(.ls 4 [])], none⟩,
 ⟨none, none, .st none (.t 16) (.t 56), none⟩,
 ⟨none, none, .st none (.t 17) (.t 58), none⟩] (some [3, 6, 9, 10, 11, 12, 13, 14, 15, 16, 17])) (
 .seq (.reg false [
 ⟨some 59, none, .ld none (.t 16), none⟩,
 ⟨some 60, none, .ld none (.t 17), none⟩,
 ⟨some 61, none, .bsl none 40 1 none [(.t 59), (.t 60)], none⟩,
 ⟨some 62, none, .call false 131 [(.c (.fn 134 [])), (.t 61)], none⟩,
 ⟨some 18, none, .mv false (.t 62), none⟩] (some [3, 6, 9, 10, 11, 12, 13, 14, 15, 16, 17, 18])) (
 .seq (.reg false [
 ⟨some 19, none, .mv false (.c (.int .i64 0)), none⟩] (some [3, 6, 9, 10, 11, 12, 13, 14, 15, 16, 17, 18, 19])) (
 .blk 2 (
 .loop (
 .seq (.seq (.reg false [
 ⟨some 63, none, .mv false (.t 19), none⟩,
 ⟨some 64, none, .bin .add .i64 (.t 63) (.c (.int .i64 1)), none⟩,
 ⟨some 65, none, .mv false (.t 18), none⟩,
 ⟨some 66, none, .len false (.t 65), none⟩,
 ⟨some 67, none, .bin .lss .i64 (.t 64) (.t 66), none⟩] (some [3, 6, 9, 10, 11, 12, 13, 14, 15, 16, 17, 18, 19, 67])) (
 .ite (.t 67) (
 .skip) (
 .exit 2))) (
 .seq (.blk 3 (
 .seq (.reg true [
 ⟨some 70, none, .mv false (.t 18), none⟩,
 ⟨some 71, none, .mv false (.t 19), none⟩,
 ⟨some 72, none, .ixs 1 (.t 70) (.t 71), none⟩,
 ⟨some 73, none, .ld none (.t 72), none⟩,
 ⟨some 74, none, .mv false (.t 18), none⟩,
 ⟨some 75, none, .mv false (.t 19), none⟩,
 ⟨some 76, none, .bin .add .i64 (.t 75) (.c (.int .i64 1)), none⟩,
 ⟨some 77, none, .ixs 1 (.t 74) (.t 76), none⟩,
 ⟨some 78, none, .ld none (.t 77), none⟩,
 ⟨some 79, none, .mv false (.t 18), none⟩,
 ⟨some 80, none, .mv false (.t 19), none⟩,
 ⟨some 81, none, .ixs 1 (.t 79) (.t 80), none⟩,
 ⟨some 82, none, .ld none (.t 81), none⟩,
 ⟨some 83, none, .bin .sub .i64 (.t 78) (.t 82), none⟩,
 ⟨some 20, none, .mv false (.t 73), none⟩,
 ⟨some 21, none, .mv false (.t 83), none⟩] (some [3, 6, 9, 10, 11, 12, 13, 14, 15, 16, 17, 18, 19, 20, 21])) (
 .seq (.reg true [
 ⟨some 84, none, .fld 0 (.t 3), none⟩,
 ⟨some 85, none, .ld none (.t 84), some [0]⟩,
 ⟨some 86, none, .mv false (.t 20), none⟩,
 ⟨some 87, none, .callK [7] 135 [(.t 16), (.t 86)], none⟩,
 ⟨some 88, none, .mv false (.t 20), none⟩,
 ⟨some 89, none, .callK [8] 135 [(.t 17), (.t 88)], none⟩,
 ⟨some 90, none, .callv false (.t 85) [(.t 87), (.t 89)], none⟩] (some [3, 6, 9, 10, 11, 12, 13, 14, 15, 16, 17, 18, 19, 20, 21, 90])) (
 .ite (.t 90) (
 .reg false [
 ⟨some 91, none, .mv false (.t 12), none⟩,
 ⟨some 92, none, .mv false (.t 20), none⟩,
 ⟨some 93, none, .mv false (.t 14), none⟩,
 ⟨some 94, none, .mv false (.t 21), none⟩,
 ⟨some 95, none, .mv false (.t 15), none⟩,
 ⟨some 96, none, .bld [(.int .i64 0), (.int .i64 0), (.int .i64 0), (.int .i64 0)] [(0, none, (.t 92)), (1, none, (.t 93)), (2, none, (.t 94)), (3, none, (.t 95))], none⟩,
 ⟨some 97, none, .bsl none 45 4 (some 4) [.t 96], none⟩,
 ⟨some 98, none, .app 45 4 32 (.t 91) (.t 97), none⟩,
 ⟨some 12, none, .mv false (.t 98), none⟩] (some [3, 6, 9, 10, 11, 12, 13, 14, 15, 16, 17, 18, 19])) (
 .skip))))) (
 .reg false [
 ⟨some 68, none, .mv false (.t 19), none⟩,
 ⟨some 69, none, .bin .add .i64 (.t 68) (.c (.int .i64 1)), none⟩,
 ⟨some 19, none, .mv false (.t 69), none⟩] (some [3, 6, 9, 10, 11, 12, 13, 14, 15, 16, 17, 18, 19]))))))))))) (
 .reg false [
 ⟨some 39, none, .mv false (.t 13), none⟩,
 ⟨some 40, none, .bin .add .i64 (.t 39) (.c (.int .i64 1)), none⟩,
 ⟨some 13, none, .mv false (.t 40), none⟩] (some [3, 6, 9, 10, 11, 12, 13]))))))) (
.seq (.reg false [
 ⟨some 99, none, .mv false (.t 12), none⟩,
 ⟨some 100, none, .call true 11 [.t 99], none⟩,
 ⟨none, none, .st (some 1) (.t 6) (.t 100), none⟩] (some [6])) (
.ret)))))))
set_option maxRecDepth 1000000 in
theorem comp_region_rule_join : (Tryz.f71.body.bind fun code => kD Tryz.prog Tryz.f71.ntmps code c_region_rule_join) = some c_region_rule_join.bare := by kernel_rfl
def kB : List R := [.cell 6 (some 1)]
theorem spo_region_rule_join {ds : List D} {d : D} (hn : Nat.ble ds.length 101 = true) (h : run TSpC gtab 0 c_region_rule_join (retK kB (· = d)) ⟨env0 0 ds, []⟩) : TSp 71 ds d := k9 kI c_region_rule_join kB (fn := Tryz.f71) (by kernel_rfl) (by kernel_rfl) comp_region_rule_join (by kernel_rfl) hn h
def c_blit_Area : C := .seq (.reg false [
 ⟨some 8, none, .box true (.t 0), none⟩,
 ⟨some 9, none, .box true (.t 1), none⟩,
 ⟨some 10, none, .box true (.t 2), none⟩,
 ⟨some 11, none, .box true (.t 3), none⟩,
 ⟨some 12, none, .box true (.t 4), none⟩,
 ⟨some 13, none, .box false (.t 5), none⟩,
 ⟨some 14, none, .box false (.t 6), none⟩,
 ⟨some 15, none, .box true (.t 7), none⟩,
 ⟨some 16, none, .alloc [(.int .i64 0), (.int .i64 0), (.ls 1 [])], none⟩,
 ⟨some 17, none, .alloc [(.ls 4 [])], none⟩] (some [8, 9, 10, 11, 12, 13, 14, 15, 16, 17])) (
.seq (.reg false [
 ⟨some 23, none, .ld none (.t 13), none⟩,
 ⟨some 24, none, .ld none (.t 14), none⟩,
 ⟨some 25, none, .fld 2 (.t 12), none⟩,
 ⟨some 26, none, .ld none (.t 25), none⟩,
 ⟨some 27, none, .fld 3 (.t 12), none⟩,
 ⟨some 28, none, .ld none (.t 27), none⟩,
 ⟨some 29, none, .bld [(.int .i64 0), (.int .i64 0), (.int .i64 0), (.int .i64 0)] [(0, none, (.t 23)), (1, none, (.t 24)), (2, none, (.t 26)), (3, none, (.t 28))], none⟩,
 ⟨some 18, none, .alloc [(.int .i64 0), (.int .i64 0), (.int .i64 0), (.int .i64 0)], none⟩,
 ⟨none, none, .st (some 4) (.t 18) (.t 29), none⟩] (some [8, 9, 10, 11, 12, 13, 14, 15, 16, 17, 18])) (
.seq (.seq (.reg false [
 ⟨some 30, none, .ld (some 9) (.t 15), none⟩,
 ⟨some 31, none, .call false 83 [.t 30], none⟩,
 ⟨some 32, none, .bin .neq .i64 (.t 31) (.c (.int .i64 0)), none⟩,
 ⟨some 33, none, .mv false (.t 32), none⟩,
 ⟨some 34, some (33, false), .ld (some 4) (.t 12), none⟩,
 ⟨some 35, some (33, false), .call false 136 [.t 34], none⟩,
 ⟨some 36, some (33, false), .not (.t 35), none⟩,
 ⟨some 37, none, .pick (.t 33) (.c (.bool true)) (.t 36), none⟩,
 ⟨some 38, none, .mv false (.t 37), none⟩,
 ⟨some 39, some (38, false), .ld (some 4) (.t 18), none⟩,
 ⟨some 40, some (38, false), .call false 136 [.t 39], none⟩,
 ⟨some 41, some (38, false), .not (.t 40), none⟩,
 ⟨some 42, none, .pick (.t 38) (.c (.bool true)) (.t 41), none⟩] (some [8, 9, 10, 11, 12, 13, 14, 15, 16, 17, 18, 42])) (
.ite (.t 42) (
 .seq (.reg false [
 ⟨some 43, none, .ld (some 3) (.t 9), none⟩,
 ⟨some 44, none, .bld [(.ls 4 [])] [], none⟩,
 ⟨none, none, .st (some 3) (.t 16) (.t 43), some [8]⟩,
 ⟨none, none, .st (some 1) (.t 17) (.t 44), some [9]⟩] (some [16, 17])) (
 .ret)) (
 .skip))) (
.seq (.reg true [
 ⟨some 45, none, .ld (some 3) (.t 8), some [0]⟩,
 ⟨some 46, none, .callC 84 [.t 45], none⟩,
 ⟨some 47, none, .ld (some 3) (.t 9), some [1]⟩,
 ⟨some 48, none, .callN 3 84 [.t 47], some [11, 12, 13, 14]⟩,
 ⟨some 19, none, .alloc [.nil], some [11, 12, 13, 14]⟩,
 ⟨none, none, .st none (.t 19) (.t 46), some [14]⟩,
 ⟨some 20, none, .mv false (.t 48), none⟩] (some [10, 11, 12, 13, 14, 15, 16, 17, 18, 19, 20])) (
.seq (.reg false [
 ⟨some 49, none, .ld (some 1) (.t 11), none⟩,
 ⟨some 50, none, .ld (some 4) (.t 18), none⟩,
 ⟨some 51, none, .call false 19 [(.t 49), (.t 50)], none⟩,
 ⟨some 52, none, .mv false (.t 20), none⟩,
 ⟨some 53, none, .call false 85 [.t 52], none⟩,
 ⟨some 54, none, .call false 19 [(.t 51), (.t 53)], none⟩,
 ⟨some 21, none, .alloc [(.ls 4 [])], none⟩,
 ⟨none, none, .st (some 1) (.t 21) (.t 54), none⟩] (some [10, 12, 13, 14, 15, 16, 17, 19, 20, 21])) (
.seq (.reg true [
 ⟨some 55, none, .ld (some 1) (.t 10), some [2]⟩,
 ⟨some 56, none, .ld (some 4) (.t 12), some [4]⟩,
 ⟨some 57, none, .callC 19 [(.t 55), (.t 56)], none⟩,
 ⟨some 58, none, .ld none (.t 19), some [14]⟩,
 ⟨some 59, none, .callC 85 [.t 58], none⟩,
 ⟨some 60, none, .callC 19 [(.t 57), (.t 59)], none⟩,
 ⟨some 61, none, .ld none (.t 13), some [5]⟩,
 ⟨some 62, none, .fld 0 (.t 12), none⟩,
 ⟨some 63, none, .ld none (.t 62), some [4]⟩,
 ⟨some 64, none, .bin .sub .i64 (.t 61) (.t 63), none⟩,
 ⟨some 65, none, .ld none (.t 14), some [6]⟩,
 ⟨some 66, none, .fld 1 (.t 12), none⟩,
 ⟨some 67, none, .ld none (.t 66), some [4]⟩,
 ⟨some 68, none, .bin .sub .i64 (.t 65) (.t 67), none⟩,
 ⟨some 69, none, .callC 18 [(.t 60), (.t 64), (.t 68)], none⟩,
 ⟨some 22, none, .alloc [(.ls 4 [])], some [16]⟩,
 ⟨none, none, .st (some 1) (.t 22) (.t 69), some [16]⟩] (some [12, 13, 14, 15, 16, 17, 19, 20, 21, 22])) (
.seq (.reg true [
 ⟨some 70, none, .mv false (.t 20), none⟩,
 ⟨some 71, none, .ld (some 1) (.t 21), none⟩,
 ⟨some 72, none, .ld (some 1) (.t 22), none⟩,
 ⟨some 73, none, .call false 13 [(.t 71), (.t 72)], none⟩,
 ⟨some 74, none, .ld (some 9) (.t 15), none⟩,
 ⟨some 75, none, .clo 137 [(.t 19), (.t 13), (.t 12), (.t 14)], none⟩,
 ⟨some 76, none, .call true 86 [(.t 70), (.t 73), (.t 74), (.t 75)], none⟩] (some [16, 17, 20, 21, 22])) (
.seq (.reg true [
 ⟨some 77, none, .mv false (.t 20), none⟩,
 ⟨some 78, none, .callR [11, 12, 13] 89 [.t 77], none⟩,
 ⟨some 79, none, .ld (some 1) (.t 21), some [15]⟩,
 ⟨some 80, none, .ld (some 1) (.t 22), some [16]⟩,
 ⟨some 81, none, .callC 23 [(.t 79), (.t 80)], none⟩,
 ⟨none, none, .st (some 3) (.t 16) (.t 78), some [8]⟩,
 ⟨none, none, .st (some 1) (.t 17) (.t 81), some [9]⟩] (some [16, 17])) (
.ret))))))))
set_option maxRecDepth 1000000 in
theorem comp_blit_Area : (Tryz.f72.body.bind fun code => kD Tryz.prog Tryz.f72.ntmps code c_blit_Area) = some c_blit_Area.bare := by kernel_rfl
def kV : List R := [.cell 16 (some 3), .cell 17 (some 1)]
theorem spo_blit_Area {ds : List D} {d : D} (hn : Nat.ble ds.length 82 = true) (h : run TSpC gtab 0 c_blit_Area (retK kV (· = d)) ⟨env0 0 ds, []⟩) : TSp 72 ds d := k9 kI c_blit_Area kV (fn := Tryz.f72) (by kernel_rfl) (by kernel_rfl) comp_blit_Area (by kernel_rfl) hn h
def c_grid_side : C := .seq (.reg false [
 ⟨some 2, none, .mv false (.c (.bool false)), none⟩] (some [0])) (
.seq (.reg false [
 ⟨some 3, none, .mv false (.t 0), none⟩,
 ⟨some 4, none, .bin .geq .i64 (.t 3) (.c (.int .i64 1)), none⟩,
 ⟨some 5, none, .mv false (.t 4), none⟩,
 ⟨some 6, some (5, true), .mv false (.t 0), none⟩,
 ⟨some 7, some (5, true), .bin .leq .i64 (.t 6) (.c (.int .i64 128)), none⟩,
 ⟨some 8, none, .pick (.t 5) (.t 7) (.c (.bool false)), none⟩,
 ⟨some 2, none, .mv false (.t 8), none⟩] (some [2])) (
.ret))
set_option maxRecDepth 1000000 in
theorem comp_grid_side : (Tryz.f73.body.bind fun code => kD Tryz.prog Tryz.f73.ntmps code c_grid_side) = some c_grid_side.bare := by kernel_rfl
def r_grid_side : List R := [.t 2]
theorem spo_grid_side {ds : List D} {d : D} (hn : Nat.ble ds.length 9 = true) (h : run TSpC gtab 0 c_grid_side (retK r_grid_side (· = d)) ⟨env0 0 ds, []⟩) : TSp 73 ds d := k9 kI c_grid_side r_grid_side (fn := Tryz.f73) (by kernel_rfl) (by kernel_rfl) comp_grid_side (by kernel_rfl) hn h
def c_grid_coord : C := .seq (.reg false [
 ⟨some 2, none, .mv false (.c (.bool false)), none⟩] (some [0])) (
.seq (.reg false [
 ⟨some 3, none, .mv false (.t 0), none⟩,
 ⟨some 4, none, .bin .geq .i64 (.t 3) (.c (.int .i64 (-1048576))), none⟩,
 ⟨some 5, none, .mv false (.t 4), none⟩,
 ⟨some 6, some (5, true), .mv false (.t 0), none⟩,
 ⟨some 7, some (5, true), .bin .leq .i64 (.t 6) (.c (.int .i64 1048576)), none⟩,
 ⟨some 8, none, .pick (.t 5) (.t 7) (.c (.bool false)), none⟩,
 ⟨some 2, none, .mv false (.t 8), none⟩] (some [2])) (
.ret))
set_option maxRecDepth 1000000 in
theorem comp_grid_coord : (Tryz.f74.body.bind fun code => kD Tryz.prog Tryz.f74.ntmps code c_grid_coord) = some c_grid_coord.bare := by kernel_rfl
def yo : List R := [.t 2]
theorem spo_grid_coord {ds : List D} {d : D} (hn : Nat.ble ds.length 9 = true) (h : run TSpC gtab 0 c_grid_coord (retK yo (· = d)) ⟨env0 0 ds, []⟩) : TSp 74 ds d := k9 kI c_grid_coord yo (fn := Tryz.f74) (by kernel_rfl) (by kernel_rfl) comp_grid_coord (by kernel_rfl) hn h
def c_grid_Grid_has : C := .seq (.reg false [
 ⟨some 3, none, .box true (.t 0), none⟩,
 ⟨some 6, none, .mv false (.c (.bool false)), none⟩] (some [1, 2, 3])) (
.seq (.reg false [
 ⟨some 7, none, .mv false (.t 1), none⟩,
 ⟨some 8, none, .bin .geq .i64 (.t 7) (.c (.int .i64 0)), none⟩,
 ⟨some 9, none, .mv false (.t 8), none⟩,
 ⟨some 10, some (9, true), .mv false (.t 1), none⟩,
 ⟨some 11, some (9, true), .fld 0 (.t 3), none⟩,
 ⟨some 12, some (9, true), .ld none (.t 11), none⟩,
 ⟨some 13, some (9, true), .bin .lss .i64 (.t 10) (.t 12), none⟩,
 ⟨some 14, none, .pick (.t 9) (.t 13) (.c (.bool false)), none⟩,
 ⟨some 15, none, .mv false (.t 14), none⟩,
 ⟨some 16, some (15, true), .mv false (.t 2), none⟩,
 ⟨some 17, some (15, true), .bin .geq .i64 (.t 16) (.c (.int .i64 0)), none⟩,
 ⟨some 18, none, .pick (.t 15) (.t 17) (.c (.bool false)), none⟩,
 ⟨some 19, none, .mv false (.t 18), none⟩,
 ⟨some 20, some (19, true), .mv false (.t 2), none⟩,
 ⟨some 21, some (19, true), .fld 1 (.t 3), none⟩,
 ⟨some 22, some (19, true), .ld none (.t 21), none⟩,
 ⟨some 23, some (19, true), .bin .lss .i64 (.t 20) (.t 22), none⟩,
 ⟨some 24, none, .pick (.t 19) (.t 23) (.c (.bool false)), none⟩,
 ⟨some 6, none, .mv false (.t 24), none⟩] (some [6])) (
.ret))
set_option maxRecDepth 1000000 in
theorem comp_grid_Grid_has : (Tryz.f75.body.bind fun code => kD Tryz.prog Tryz.f75.ntmps code c_grid_Grid_has) = some c_grid_Grid_has.bare := by kernel_rfl
def xn : List R := [.t 6]
theorem spo_grid_Grid_has {ds : List D} {d : D} (hn : Nat.ble ds.length 25 = true) (h : run TSpC gtab 0 c_grid_Grid_has (retK xn (· = d)) ⟨env0 0 ds, []⟩) : TSp 75 ds d := k9 kI c_grid_Grid_has xn (fn := Tryz.f75) (by kernel_rfl) (by kernel_rfl) comp_grid_Grid_has (by kernel_rfl) hn h
def c_band_Region_Rects : C := .seq (.reg false [
 ⟨some 1, none, .box true (.t 0), none⟩,
 ⟨some 2, none, .nilS 45 4, none⟩] (some [1])) (
.seq (.reg false [
 ⟨some 3, none, .fld 0 (.t 1), none⟩,
 ⟨some 4, none, .ld none (.t 3), none⟩,
 ⟨some 5, none, .call true 138 [.t 4], none⟩,
 ⟨some 2, none, .mv false (.t 5), none⟩] (some [2])) (
.ret))
set_option maxRecDepth 1000000 in
theorem vz : (Tryz.f76.body.bind fun code => kD Tryz.prog Tryz.f76.ntmps code c_band_Region_Rects) = some c_band_Region_Rects.bare := by kernel_rfl
def qg : List R := [.t 2]
theorem spo_band_Region_Rects {ds : List D} {d : D} (hn : Nat.ble ds.length 6 = true) (h : run TSpC gtab 0 c_band_Region_Rects (retK qg (· = d)) ⟨env0 0 ds, []⟩) : TSp 76 ds d := k9 kI c_band_Region_Rects qg (fn := Tryz.f76) (by kernel_rfl) (by kernel_rfl) vz (by kernel_rfl) hn h
theorem spm_band_Region_Rects {ds : List D} {d : D} {bx bx' : List Ent} (hn : Nat.ble ds.length 6 = true) (h : run TSpC gtab (jZ bx) c_band_Region_Rects (retG qg (fun d1 bx1 => Rt (jZ bx) bx1 d1 d bx')) ⟨env0 0 ds, bx⟩) : TSpM 76 ds bx d bx' := qS kI c_band_Region_Rects qg (fn := Tryz.f76) (by kernel_rfl) (by kernel_rfl) vz (by kernel_rfl) hn h
def c_region_moved : C := .seq (.reg false [
 ⟨some 6, none, .mv false (.c (.int .i64 0)), none⟩,
 ⟨some 7, none, .mv false (.c (.int .i64 0)), none⟩] (some [0, 1, 2])) (
.seq (.reg false [
 ⟨some 10, none, .mv false (.t 0), none⟩,
 ⟨some 11, none, .mv false (.t 2), none⟩,
 ⟨some 12, none, .bin .add .i64 (.t 10) (.t 11), none⟩,
 ⟨some 13, none, .mx (.t 12) (.c (.int .i64 (-1048576))), none⟩,
 ⟨some 8, none, .mv false (.t 13), none⟩] (some [0, 1, 2, 8])) (
.seq (.reg false [
 ⟨some 14, none, .mv false (.t 0), none⟩,
 ⟨some 15, none, .mv false (.t 2), none⟩,
 ⟨some 16, none, .bin .add .i64 (.t 14) (.t 15), none⟩,
 ⟨some 17, none, .mv false (.t 1), none⟩,
 ⟨some 18, none, .bin .add .i64 (.t 16) (.t 17), none⟩,
 ⟨some 19, none, .mn (.t 18) (.c (.int .i64 1048576)), none⟩,
 ⟨some 9, none, .mv false (.t 19), none⟩] (some [8, 9])) (
.seq (.reg false [
 ⟨some 20, none, .mv false (.t 8), none⟩,
 ⟨some 21, none, .mv false (.t 9), none⟩,
 ⟨some 22, none, .mv false (.t 8), none⟩,
 ⟨some 23, none, .bin .sub .i64 (.t 21) (.t 22), none⟩,
 ⟨some 6, none, .mv false (.t 20), none⟩,
 ⟨some 7, none, .mv false (.t 23), none⟩] (some [6, 7])) (
.ret))))
set_option maxRecDepth 1000000 in
theorem comp_region_moved : (Tryz.f77.body.bind fun code => kD Tryz.prog Tryz.f77.ntmps code c_region_moved) = some c_region_moved.bare := by kernel_rfl
def xC : List R := [.t 6, .t 7]
theorem spo_region_moved {ds : List D} {d : D} (hn : Nat.ble ds.length 24 = true) (h : run TSpC gtab 0 c_region_moved (retK xC (· = d)) ⟨env0 0 ds, []⟩) : TSp 77 ds d := k9 kI c_region_moved xC (fn := Tryz.f77) (by kernel_rfl) (by kernel_rfl) comp_region_moved (by kernel_rfl) hn h
def c_grid_Grid_twin : C := .seq (.reg false [
 ⟨some 1, none, .box true (.t 0), none⟩,
 ⟨some 2, none, .alloc [(.int .i64 0), (.int .i64 0), (.ls 1 [])], none⟩] (some [1, 2])) (
.seq (.reg false [
 ⟨some 4, none, .fld 2 (.t 1), none⟩,
 ⟨some 5, none, .ld none (.t 4), none⟩,
 ⟨some 6, none, .len false (.t 5), none⟩,
 ⟨some 7, none, .mks 51 1 none [(.int .u8 0)] (.t 6) (.t 6), none⟩,
 ⟨some 3, none, .mv false (.t 7), none⟩] (some [1, 2, 3])) (
.seq (.reg false [
 ⟨some 8, none, .mv false (.t 3), none⟩,
 ⟨some 9, none, .fld 2 (.t 1), none⟩,
 ⟨some 10, none, .ld none (.t 9), none⟩,
 ⟨some 11, none, .cpy 51 1 (.t 8) (.t 10), none⟩] (some [1, 2, 3])) (
.seq (.reg false [
 ⟨some 12, none, .fld 0 (.t 1), none⟩,
 ⟨some 13, none, .ld none (.t 12), none⟩,
 ⟨some 14, none, .fld 1 (.t 1), none⟩,
 ⟨some 15, none, .ld none (.t 14), none⟩,
 ⟨some 16, none, .mv false (.t 3), none⟩,
 ⟨some 17, none, .bld [(.int .i64 0), (.int .i64 0), (.ls 1 [])] [(0, none, (.t 13)), (1, none, (.t 15)), (2, none, (.t 16))], none⟩,
 ⟨none, none, .st (some 3) (.t 2) (.t 17), none⟩] (some [2])) (
.ret))))
set_option maxRecDepth 1000000 in
theorem comp_grid_Grid_twin : (Tryz.f78.body.bind fun code => kD Tryz.prog Tryz.f78.ntmps code c_grid_Grid_twin) = some c_grid_Grid_twin.bare := by kernel_rfl
def vI : List R := [.cell 2 (some 3)]
theorem spm_grid_Grid_twin {ds : List D} {d : D} {bx bx' : List Ent} (hn : Nat.ble ds.length 18 = true) (h : run TSpC gtab (jZ bx) c_grid_Grid_twin (retG vI (fun d1 bx1 => Rt (jZ bx) bx1 d1 d bx')) ⟨env0 0 ds, bx⟩) : TSpM 78 ds bx d bx' := qS kI c_grid_Grid_twin vI (fn := Tryz.f78) (by kernel_rfl) (by kernel_rfl) comp_grid_Grid_twin (by kernel_rfl) hn h
def c_grid_Grid_spans : C := .seq (.reg false [
 ⟨some 3, none, .box true (.t 0), none⟩,
 ⟨some 4, none, .box true (.t 1), none⟩] (some [2, 3, 4])) (
.seq (.skip) (
.seq (.reg false [
 ⟨some 11, none, .ld (some 1) (.t 4), none⟩,
 ⟨some 12, none, .call false 76 [.t 11], none⟩,
 ⟨some 13, none, .len false (.t 12), none⟩,
 ⟨some 14, none, .mv false (.c (.int .i64 0)), none⟩] (some [2, 3, 12, 13, 14])) (
.blk 0 (
 .loop (
 .seq (.reg false [
 ⟨some 15, none, .bin .lss .i64 (.t 14) (.t 13), none⟩] (some [2, 3, 12, 13, 14, 15])) (
 .seq (.ite (.t 15) (
 .skip) (
 .exit 0)) (
 .seq (.blk 1 (
 .seq (.reg false [
 ⟨some 16, none, .ixs 4 (.t 12) (.t 14), none⟩,
 ⟨some 17, none, .ld (some 4) (.t 16), none⟩,
 ⟨some 7, none, .alloc [(.int .i64 0), (.int .i64 0), (.int .i64 0), (.int .i64 0)], none⟩,
 ⟨none, none, .st (some 4) (.t 7) (.t 17), none⟩] (some [2, 3, 7, 12, 13, 14])) (
 .seq (.reg true [
 ⟨some 18, none, .fld 0 (.t 7), none⟩,
 ⟨some 19, none, .ld none (.t 18), none⟩,
 ⟨some 20, none, .mx (.t 19) (.c (.int .i64 0)), none⟩,
 ⟨some 21, none, .fld 0 (.t 7), none⟩,
 ⟨some 22, none, .ld none (.t 21), none⟩,
 ⟨some 23, none, .fld 2 (.t 7), none⟩,
 ⟨some 24, none, .ld none (.t 23), none⟩,
 ⟨some 25, none, .bin .add .i64 (.t 22) (.t 24), none⟩,
 ⟨some 26, none, .fld 0 (.t 3), none⟩,
 ⟨some 27, none, .ld none (.t 26), none⟩,
 ⟨some 28, none, .mn (.t 25) (.t 27), none⟩,
 ⟨some 8, none, .mv false (.t 20), none⟩,
 ⟨some 9, none, .mv false (.t 28), none⟩] (some [2, 3, 7, 8, 9, 12, 13, 14])) (
 .seq (.seq (.reg false [
 ⟨some 29, none, .mv false (.t 8), none⟩,
 ⟨some 30, none, .mv false (.t 9), none⟩,
 ⟨some 31, none, .bin .geq .i64 (.t 29) (.t 30), none⟩] (some [2, 3, 7, 8, 9, 12, 13, 14, 31])) (
 .ite (.t 31) (
 .exit 1) (
 .skip))) (
 .seq (.reg false [
 ⟨some 32, none, .fld 1 (.t 7), none⟩,
 ⟨some 33, none, .ld none (.t 32), none⟩,
 ⟨some 34, none, .mx (.t 33) (.c (.int .i64 0)), none⟩,
 ⟨some 10, none, .mv false (.t 34), none⟩] (some [2, 3, 7, 8, 9, 10, 12, 13, 14])) (
 .blk 2 (
 .loop (
 .seq (.seq (.reg false [
 ⟨some 35, none, .mv false (.t 10), none⟩,
 ⟨some 36, none, .fld 1 (.t 7), none⟩,
 ⟨some 37, none, .ld none (.t 36), none⟩,
 ⟨some 38, none, .fld 3 (.t 7), none⟩,
 ⟨some 39, none, .ld none (.t 38), none⟩,
 ⟨some 40, none, .bin .add .i64 (.t 37) (.t 39), none⟩,
 ⟨some 41, none, .bin .lss .i64 (.t 35) (.t 40), none⟩] (some [2, 3, 7, 8, 9, 10, 12, 13, 14, 41])) (
 .ite (.t 41) (
 .skip) (
 .exit 2))) (
 .seq (.blk 3 (
 .seq (.seq (.reg false [
 ⟨some 44, none, .mv false (.t 10), none⟩,
 ⟨some 45, none, .fld 1 (.t 3), none⟩,
 ⟨some 46, none, .ld none (.t 45), none⟩,
 ⟨some 47, none, .bin .geq .i64 (.t 44) (.t 46), none⟩] (some [2, 3, 7, 8, 9, 10, 12, 13, 14, 47])) (
 .ite (.t 47) (
 .exit 1) (
 .skip))) (
 .reg false [
 ⟨some 48, none, .mv false (.t 2), none⟩,
 ⟨some 49, none, .mv false (.t 10), none⟩,
 ⟨some 50, none, .mv false (.t 8), none⟩,
 ⟨some 51, none, .mv false (.t 9), none⟩,
 ⟨some 52, none, .callv true (.t 48) [(.t 49), (.t 50), (.t 51)], none⟩] (some [2, 3, 7, 8, 9, 10, 12, 13, 14])))) (
 .reg false [
 ⟨some 42, none, .mv false (.t 10), none⟩,
 ⟨some 43, none, .bin .add .i64 (.t 42) (.c (.int .i64 1)), none⟩,
 ⟨some 10, none, .mv false (.t 43), none⟩] (some [2, 3, 7, 8, 9, 10, 12, 13, 14]))))))))))) (
 .reg false [
 ⟨some 53, none, .bin .add .i64 (.t 14) (.c (.int .i64 1)), none⟩,
 ⟨some 14, none, .mv false (.t 53), none⟩] (some [2, 3, 12, 13, 14])))))))))
set_option maxRecDepth 1000000 in
theorem comp_grid_Grid_spans : (Tryz.f79.body.bind fun code => kD Tryz.prog Tryz.f79.ntmps code c_grid_Grid_spans) = some c_grid_Grid_spans.bare := by kernel_rfl
def kM : List R := []
theorem xr {ds : List D} {d : D} {bx bx' : List Ent} (hn : Nat.ble ds.length 54 = true) (h : run TSpC gtab (jZ bx) c_grid_Grid_spans (retG kM (fun d1 bx1 => Rt (jZ bx) bx1 d1 d bx')) ⟨env0 0 ds, bx⟩) : TSpM 79 ds bx d bx' := qS kI c_grid_Grid_spans kM (fn := Tryz.f79) (by kernel_rfl) (by kernel_rfl) comp_grid_Grid_spans (by kernel_rfl) hn h
def c_grid_Grid_Lay_1 : C := .seq (.reg false [
 ⟨some 11, none, .mv false (.t 1), none⟩,
 ⟨some 10, none, .mv false (.t 11), none⟩] (some [0, 2, 3, 4, 5, 6, 10])) (
.blk 0 (
 .loop (
 .seq (.seq (.reg false [
 ⟨some 12, none, .mv false (.t 10), none⟩,
 ⟨some 13, none, .mv false (.t 2), none⟩,
 ⟨some 14, none, .bin .lss .i64 (.t 12) (.t 13), none⟩] (some [0, 2, 3, 4, 5, 6, 10, 14])) (
 .ite (.t 14) (
 .skip) (
 .exit 0))) (
 .seq (.blk 1 (
 .seq (.reg false [
 ⟨some 17, none, .ld (some 3) (.t 3), none⟩,
 ⟨some 18, none, .mv false (.t 10), none⟩,
 ⟨some 19, none, .ld none (.t 4), none⟩,
 ⟨some 20, none, .bin .sub .i64 (.t 18) (.t 19), none⟩,
 ⟨some 21, none, .mv false (.t 0), none⟩,
 ⟨some 22, none, .ld none (.t 5), none⟩,
 ⟨some 23, none, .bin .sub .i64 (.t 21) (.t 22), none⟩,
 ⟨some 24, none, .call false 75 [(.t 17), (.t 20), (.t 23)], none⟩] (some [0, 2, 3, 4, 5, 6, 10, 24])) (
 .ite (.t 24) (
 .reg true [
 ⟨some 25, none, .fld 2 (.t 6), none⟩,
 ⟨some 26, none, .ld none (.t 25), none⟩,
 ⟨some 27, none, .mv false (.t 0), none⟩,
 ⟨some 28, none, .fld 0 (.t 6), none⟩,
 ⟨some 29, none, .ld none (.t 28), none⟩,
 ⟨some 30, none, .bin .mul .i64 (.t 27) (.t 29), none⟩,
 ⟨some 31, none, .mv false (.t 10), none⟩,
 ⟨some 32, none, .bin .add .i64 (.t 30) (.t 31), none⟩,
 ⟨some 33, none, .ld (some 3) (.t 3), none⟩,
 ⟨some 34, none, .mv false (.t 10), none⟩,
 ⟨some 35, none, .ld none (.t 4), none⟩,
 ⟨some 36, none, .bin .sub .i64 (.t 34) (.t 35), none⟩,
 ⟨some 37, none, .mv false (.t 0), none⟩,
 ⟨some 38, none, .ld none (.t 5), none⟩,
 ⟨some 39, none, .bin .sub .i64 (.t 37) (.t 38), none⟩,
 ⟨some 40, none, .call false 46 [(.t 33), (.t 36), (.t 39)], none⟩,
 ⟨some 41, none, .ixs 1 (.t 26) (.t 32), none⟩,
 ⟨none, none, .st none (.t 41) (.t 40), none⟩] (some [0, 2, 3, 4, 5, 6, 10])) (
 .skip)))) (
 .reg false [
 ⟨some 15, none, .mv false (.t 10), none⟩,
 ⟨some 16, none, .bin .add .i64 (.t 15) (.c (.int .i64 1)), none⟩,
 ⟨some 10, none, .mv false (.t 16), none⟩] (some [0, 2, 3, 4, 5, 6, 10]))))))
set_option maxRecDepth 1000000 in
theorem comp_grid_Grid_Lay_1 : (Tryz.f80.body.bind fun code => kD Tryz.prog Tryz.f80.ntmps code c_grid_Grid_Lay_1) = some c_grid_Grid_Lay_1.bare := by kernel_rfl
def qC : List R := []
theorem spm_grid_Grid_Lay_1 {ds : List D} {d : D} {bx bx' : List Ent} (hn : Nat.ble ds.length 42 = true) (h : run TSpC gtab (jZ bx) c_grid_Grid_Lay_1 (retG qC (fun d1 bx1 => Rt (jZ bx) bx1 d1 d bx')) ⟨env0 0 ds, bx⟩) : TSpM 80 ds bx d bx' := qS kI c_grid_Grid_Lay_1 qC (fn := Tryz.f80) (by kernel_rfl) (by kernel_rfl) comp_grid_Grid_Lay_1 (by kernel_rfl) hn h
def c_slices_Equal_api_Rect_api_Rect : C := .seq (.reg false [
 ⟨some 4, none, .mv false (.c (.bool false)), none⟩] (some [0, 1])) (
.seq (.seq (.reg false [
 ⟨some 6, none, .mv false (.t 0), none⟩,
 ⟨some 7, none, .len false (.t 6), none⟩,
 ⟨some 8, none, .mv false (.t 1), none⟩,
 ⟨some 9, none, .len false (.t 8), none⟩,
 ⟨some 10, none, .bin .neq .i64 (.t 7) (.t 9), none⟩] (some [0, 1, 10])) (
.ite (.t 10) (
 .seq (.reg false [
 ⟨some 4, none, .mv false (.c (.bool false)), none⟩] (some [4])) (
 .ret)) (
 .skip))) (
.seq (.seq (.reg false [
 ⟨some 11, none, .mv false (.t 0), none⟩,
 ⟨some 12, none, .len false (.t 11), none⟩,
 ⟨some 13, none, .mv false (.c (.int .i64 0)), none⟩] (some [0, 1, 12, 13])) (
.blk 0 (
 .loop (
 .seq (.reg false [
 ⟨some 14, none, .bin .lss .i64 (.t 13) (.t 12), none⟩] (some [0, 1, 12, 13, 14])) (
 .seq (.ite (.t 14) (
 .skip) (
 .exit 0)) (
 .seq (.blk 1 (
 .seq (.reg false [
 ⟨some 15, none, .mv false (.t 13), none⟩,
 ⟨some 5, none, .mv false (.t 15), none⟩] (some [0, 1, 5, 12, 13])) (
 .seq (.reg true [
 ⟨some 16, none, .mv false (.t 0), none⟩,
 ⟨some 17, none, .mv false (.t 5), none⟩,
 ⟨some 18, none, .ixs 4 (.t 16) (.t 17), none⟩,
 ⟨some 19, none, .ld (some 4) (.t 18), none⟩,
 ⟨some 20, none, .mv false (.t 1), none⟩,
 ⟨some 21, none, .mv false (.t 5), none⟩,
 ⟨some 22, none, .ixs 4 (.t 20) (.t 21), none⟩,
 ⟨some 23, none, .ld (some 4) (.t 22), none⟩,
 ⟨some 24, none, .eqS true [.i .i64, .i .i64, .i .i64, .i .i64] (.t 19) (.t 23), none⟩] (some [0, 1, 12, 13, 24])) (
 .ite (.t 24) (
 .seq (.reg false [
 ⟨some 4, none, .mv false (.c (.bool false)), none⟩] (some [4])) (
 .ret)) (
 .skip))))) (
 .reg false [
 ⟨some 25, none, .bin .add .i64 (.t 13) (.c (.int .i64 1)), none⟩,
 ⟨some 13, none, .mv false (.t 25), none⟩] (some [0, 1, 12, 13])))))))) (
.seq (.reg false [
 ⟨some 4, none, .mv false (.c (.bool true)), none⟩] (some [4])) (
.ret))))
set_option maxRecDepth 1000000 in
theorem zX : (Tryz.f81.body.bind fun code => kD Tryz.prog Tryz.f81.ntmps code c_slices_Equal_api_Rect_api_Rect) = some c_slices_Equal_api_Rect_api_Rect.bare := by kernel_rfl
def kO : List R := [.t 4]
theorem z2 {ds : List D} {d : D} (hn : Nat.ble ds.length 26 = true) (h : run TSpC gtab 0 c_slices_Equal_api_Rect_api_Rect (retK kO (· = d)) ⟨env0 0 ds, []⟩) : TSp 81 ds d := k9 kI c_slices_Equal_api_Rect_api_Rect kO (fn := Tryz.f81) (by kernel_rfl) (by kernel_rfl) zX (by kernel_rfl) hn h
def c_region_Minus_1 : C := .seq (.reg false [
 ⟨some 4, none, .mv false (.c (.bool false)), none⟩] (some [0, 1])) (
.seq (.reg false [
 ⟨some 5, none, .mv false (.t 0), none⟩,
 ⟨some 6, none, .mv false (.t 5), none⟩,
 ⟨some 7, some (6, true), .mv false (.t 1), none⟩,
 ⟨some 8, some (6, true), .not (.t 7), none⟩,
 ⟨some 9, none, .pick (.t 6) (.t 8) (.c (.bool false)), none⟩,
 ⟨some 4, none, .mv false (.t 9), none⟩] (some [4])) (
.ret))
set_option maxRecDepth 1000000 in
theorem comp_region_Minus_1 : (Tryz.f82.body.bind fun code => kD Tryz.prog Tryz.f82.ntmps code c_region_Minus_1) = some c_region_Minus_1.bare := by kernel_rfl
def vH : List R := [.t 4]
theorem spo_region_Minus_1 {ds : List D} {d : D} (hn : Nat.ble ds.length 10 = true) (h : run TSpC gtab 0 c_region_Minus_1 (retK vH (· = d)) ⟨env0 0 ds, []⟩) : TSp 82 ds d := k9 kI c_region_Minus_1 vH (fn := Tryz.f82) (by kernel_rfl) (by kernel_rfl) comp_region_Minus_1 (by kernel_rfl) hn h
def c_pen_Pen_Check : C := .seq (.reg false [
 ⟨some 1, none, .box true (.t 0), none⟩,
 ⟨some 2, none, .mv false (.c (.int .i64 0)), none⟩] (some [1])) (
.seq (.blk 0 (
 .seq (.reg false [
 ⟨some 6, none, .fld 0 (.t 1), none⟩,
 ⟨some 7, none, .ld none (.t 6), none⟩,
 ⟨some 8, none, .call false 139 [.t 7], none⟩,
 ⟨some 9, none, .not (.t 8), none⟩,
 ⟨some 5, none, .mv false (.t 9), none⟩] (some [1, 5])) (
 .ite (.t 5) (
 .seq (.reg false [
 ⟨some 2, none, .mv false (.c (.int .i64 10)), none⟩] (some [2])) (
 .ret)) (
 .seq (.reg false [
 ⟨some 11, none, .fld 5 (.t 1), none⟩,
 ⟨some 12, none, .ld none (.t 11), none⟩,
 ⟨some 13, none, .call false 140 [.t 12], none⟩,
 ⟨some 14, none, .not (.t 13), none⟩,
 ⟨some 15, none, .mv false (.t 14), none⟩,
 ⟨some 16, some (15, false), .fld 6 (.t 1), none⟩,
 ⟨some 17, some (15, false), .ld none (.t 16), none⟩,
 ⟨some 18, some (15, false), .call false 140 [.t 17], none⟩,
 ⟨some 19, some (15, false), .not (.t 18), none⟩,
 ⟨some 20, none, .pick (.t 15) (.c (.bool true)) (.t 19), none⟩,
 ⟨some 10, none, .mv false (.t 20), none⟩] (some [1, 10])) (
 .ite (.t 10) (
 .seq (.reg false [
 ⟨some 2, none, .mv false (.c (.int .i64 1)), none⟩] (some [2])) (
 .ret)) (
 .seq (.reg false [
 ⟨some 22, none, .fld 7 (.t 1), none⟩,
 ⟨some 23, none, .ld none (.t 22), none⟩,
 ⟨some 24, none, .not (.t 23), none⟩,
 ⟨some 25, none, .mv false (.t 24), none⟩,
 ⟨some 26, some (25, true), .fld 8 (.t 1), none⟩,
 ⟨some 27, some (25, true), .ld none (.t 26), none⟩,
 ⟨some 28, some (25, true), .len false (.t 27), none⟩,
 ⟨some 29, some (25, true), .bin .gtr .i64 (.t 28) (.c (.int .i64 0)), none⟩,
 ⟨some 30, none, .pick (.t 25) (.t 29) (.c (.bool false)), none⟩,
 ⟨some 21, none, .mv false (.t 30), none⟩] (some [1, 21])) (
 .ite (.t 21) (
 .seq (.reg false [
 ⟨some 2, none, .mv false (.c (.int .i64 9)), none⟩] (some [2])) (
 .ret)) (
 .seq (.reg false [
 ⟨some 32, none, .fld 8 (.t 1), none⟩,
 ⟨some 33, none, .ld none (.t 32), none⟩,
 ⟨some 34, none, .len false (.t 33), none⟩,
 ⟨some 35, none, .bin .gtr .i64 (.t 34) (.c (.int .i64 256)), none⟩,
 ⟨some 31, none, .mv false (.t 35), none⟩] (some [1, 31])) (
 .ite (.t 31) (
 .seq (.reg false [
 ⟨some 2, none, .mv false (.c (.int .i64 5)), none⟩] (some [2])) (
 .ret)) (
 .skip)))))))))) (
.seq (.seq (.reg false [
 ⟨some 36, none, .fld 8 (.t 1), none⟩,
 ⟨some 37, none, .ld none (.t 36), none⟩,
 ⟨some 38, none, .len false (.t 37), none⟩,
 ⟨some 39, none, .mv false (.c (.int .i64 0)), none⟩] (some [37, 38, 39])) (
.blk 1 (
 .loop (
 .seq (.reg false [
 ⟨some 40, none, .bin .lss .i64 (.t 39) (.t 38), none⟩] (some [37, 38, 39, 40])) (
 .seq (.ite (.t 40) (
 .skip) (
 .exit 1)) (
 .seq (.blk 2 (
 .seq (.reg false [
 ⟨some 41, none, .ixs 4 (.t 37) (.t 39), none⟩,
 ⟨some 42, none, .ld (some 4) (.t 41), none⟩,
 ⟨some 4, none, .alloc [(.int .i64 0), (.int .i64 0), (.int .i64 0), (.int .i64 0)], none⟩,
 ⟨none, none, .st (some 4) (.t 4) (.t 42), none⟩] (some [4, 37, 38, 39])) (
 .seq (.reg false [
 ⟨some 43, none, .fld 0 (.t 4), none⟩,
 ⟨some 44, none, .ld none (.t 43), none⟩,
 ⟨some 45, none, .call false 140 [.t 44], none⟩,
 ⟨some 46, none, .not (.t 45), none⟩,
 ⟨some 47, none, .mv false (.t 46), none⟩,
 ⟨some 48, some (47, false), .fld 1 (.t 4), none⟩,
 ⟨some 49, some (47, false), .ld none (.t 48), none⟩,
 ⟨some 50, some (47, false), .call false 140 [.t 49], none⟩,
 ⟨some 51, some (47, false), .not (.t 50), none⟩,
 ⟨some 52, none, .pick (.t 47) (.c (.bool true)) (.t 51), none⟩,
 ⟨some 53, none, .mv false (.t 52), none⟩,
 ⟨some 54, some (53, false), .fld 2 (.t 4), none⟩,
 ⟨some 55, some (53, false), .ld none (.t 54), none⟩,
 ⟨some 56, some (53, false), .call false 141 [.t 55], none⟩,
 ⟨some 57, some (53, false), .not (.t 56), none⟩,
 ⟨some 58, none, .pick (.t 53) (.c (.bool true)) (.t 57), none⟩,
 ⟨some 59, none, .mv false (.t 58), none⟩,
 ⟨some 60, some (59, false), .fld 3 (.t 4), none⟩,
 ⟨some 61, some (59, false), .ld none (.t 60), none⟩,
 ⟨some 62, some (59, false), .call false 141 [.t 61], none⟩,
 ⟨some 63, some (59, false), .not (.t 62), none⟩,
 ⟨some 64, none, .pick (.t 59) (.c (.bool true)) (.t 63), none⟩] (some [37, 38, 39, 64])) (
 .ite (.t 64) (
 .seq (.reg false [
 ⟨some 2, none, .mv false (.c (.int .i64 1)), none⟩] (some [2])) (
 .ret)) (
 .skip))))) (
 .reg false [
 ⟨some 65, none, .bin .add .i64 (.t 39) (.c (.int .i64 1)), none⟩,
 ⟨some 39, none, .mv false (.t 65), none⟩] (some [37, 38, 39])))))))) (
.seq (.reg false [
 ⟨some 2, none, .mv false (.c (.int .i64 0)), none⟩] (some [2])) (
.ret))))
set_option maxRecDepth 1000000 in
theorem comp_pen_Pen_Check : (Tryz.f83.body.bind fun code => kD Tryz.prog Tryz.f83.ntmps code c_pen_Pen_Check) = some c_pen_Pen_Check.bare := by kernel_rfl
def qP : List R := [.t 2]
theorem spo_pen_Pen_Check {ds : List D} {d : D} (hn : Nat.ble ds.length 66 = true) (h : run TSpC gtab 0 c_pen_Pen_Check (retK qP (· = d)) ⟨env0 0 ds, []⟩) : TSp 83 ds d := k9 kI c_pen_Pen_Check qP (fn := Tryz.f83) (by kernel_rfl) (by kernel_rfl) comp_pen_Pen_Check (by kernel_rfl) hn h
def c_plane_Of : C := .seq (.reg false [
 ⟨some 1, none, .box true (.t 0), none⟩,
 ⟨some 2, none, .mv false (.c .nil), none⟩] (some [1])) (
.seq (.reg false [
 ⟨some 10, none, .ld (some 3) (.t 1), none⟩,
 ⟨some 11, none, .call false 10 [.t 10], none⟩,
 ⟨some 9, none, .mv false (.t 11), none⟩,
 ⟨some 12, none, .ext (.t 9) 0, none⟩,
 ⟨some 13, none, .ext (.t 9) 1, none⟩,
 ⟨some 3, none, .mv false (.t 12), none⟩,
 ⟨some 4, none, .mv false (.t 13), none⟩] (some [1, 3, 4])) (
.seq (.reg false [
 ⟨some 14, none, .mv false (.t 3), none⟩,
 ⟨some 15, none, .mv false (.t 4), none⟩,
 ⟨some 16, none, .ld (some 3) (.t 1), none⟩,
 ⟨some 17, none, .bld [(.int .i64 0), (.int .i64 0), (.ls 1 []), (.ls 1 []), (.int .i64 0), (.int .i64 0), (.ls 1 [])] [(0, none, (.t 14)), (1, none, (.t 15)), (4, (some 3), (.t 16))], none⟩,
 ⟨some 18, none, .box true (.t 17), none⟩,
 ⟨some 5, none, .mv false (.t 18), none⟩] (some [1, 3, 4, 5])) (
.seq (.reg false [
 ⟨some 19, none, .mv false (.t 5), none⟩,
 ⟨some 20, none, .mv false (.t 3), none⟩,
 ⟨some 21, none, .mv false (.t 4), none⟩,
 ⟨some 22, none, .bin .mul .i64 (.t 20) (.t 21), none⟩,
 ⟨some 23, none, .mks 51 1 none [(.int .u8 0)] (.c (.int .i64 0)) (.t 22), none⟩,
 ⟨some 24, none, .chk (.t 19), none⟩,
 ⟨some 25, none, .fld 2 (.t 24), none⟩,
 ⟨none, none, .st none (.t 25) (.t 23), none⟩] (some [1, 4, 5])) (
.seq (.seq (.reg false [
 ⟨some 26, none, .mv false (.t 4), none⟩,
 ⟨some 27, none, .mv false (.c (.int .i64 0)), none⟩] (some [1, 5, 26, 27])) (
.blk 0 (
 .loop (
 .seq (.reg false [
 ⟨some 28, none, .bin .lss .i64 (.t 27) (.t 26), none⟩] (some [1, 5, 26, 27, 28])) (
 .seq (.ite (.t 28) (
 .skip) (
 .exit 0)) (
 .seq (.blk 1 (
 .seq (.reg false [
 ⟨some 29, none, .mv false (.t 27), none⟩,
 ⟨some 6, none, .mv false (.t 29), none⟩] (some [1, 5, 6, 26, 27])) (
 .seq (.reg false [
 ⟨some 30, none, .ld (some 3) (.t 1), none⟩,
 ⟨some 31, none, .mv false (.t 6), none⟩,
 ⟨some 32, none, .call false 57 [(.t 30), (.t 31)], none⟩,
 ⟨some 7, none, .mv false (.t 32), none⟩] (some [1, 5, 7, 26, 27])) (
 .seq (.reg false [
 ⟨some 33, none, .mv false (.t 7), none⟩,
 ⟨some 34, none, .len true (.t 33), none⟩,
 ⟨some 35, none, .mv false (.c (.int .i64 0)), none⟩] (some [1, 5, 7, 26, 27, 34, 35])) (
 .blk 2 (
 .loop (
 .seq (.reg false [
 ⟨some 36, none, .bin .lss .i64 (.t 35) (.t 34), none⟩] (some [1, 5, 7, 26, 27, 34, 35, 36])) (
 .seq (.ite (.t 36) (
 .skip) (
 .exit 2)) (
 .seq (.blk 3 (
 .seq (.reg false [
 ⟨some 37, none, .mv false (.t 35), none⟩,
 ⟨some 8, none, .mv false (.t 37), none⟩] (some [1, 5, 7, 8, 26, 27, 34, 35])) (
 .reg true [
 ⟨some 38, none, .mv false (.t 5), none⟩,
 ⟨some 39, none, .mv false (.t 5), none⟩,
 ⟨some 40, none, .chk (.t 39), none⟩,
 ⟨some 41, none, .fld 2 (.t 40), none⟩,
 ⟨some 42, none, .ld none (.t 41), none⟩,
 ⟨some 43, none, .mv false (.t 7), none⟩,
 ⟨some 44, none, .mv false (.t 8), none⟩,
 ⟨some 45, none, .sidx (.t 43) (.t 44), none⟩,
 ⟨some 46, none, .bsl none 51 1 none [.t 45], none⟩,
 ⟨some 47, none, .app 51 1 1 (.t 42) (.t 46), none⟩,
 ⟨some 48, none, .chk (.t 38), none⟩,
 ⟨some 49, none, .fld 2 (.t 48), none⟩,
 ⟨none, none, .st none (.t 49) (.t 47), none⟩] (some [1, 5, 7, 26, 27, 34, 35])))) (
 .reg false [
 ⟨some 50, none, .bin .add .i64 (.t 35) (.c (.int .i64 1)), none⟩,
 ⟨some 35, none, .mv false (.t 50), none⟩] (some [1, 5, 7, 26, 27, 34, 35]))))))))))) (
 .reg false [
 ⟨some 51, none, .bin .add .i64 (.t 27) (.c (.int .i64 1)), none⟩,
 ⟨some 27, none, .mv false (.t 51), none⟩] (some [1, 5, 26, 27])))))))) (
.seq (.reg false [
 ⟨some 52, none, .mv false (.t 5), none⟩,
 ⟨some 53, none, .mv false (.t 5), none⟩,
 ⟨some 54, none, .chk (.t 53), none⟩,
 ⟨some 55, none, .fld 2 (.t 54), none⟩,
 ⟨some 56, none, .ld none (.t 55), none⟩,
 ⟨some 57, none, .len false (.t 56), none⟩,
 ⟨some 58, none, .mks 51 1 none [(.int .u8 0)] (.t 57) (.t 57), none⟩,
 ⟨some 59, none, .chk (.t 52), none⟩,
 ⟨some 60, none, .fld 3 (.t 59), none⟩,
 ⟨none, none, .st none (.t 60) (.t 58), none⟩] (some [5])) (
.seq (.reg true [
 ⟨some 61, none, .mv false (.t 5), none⟩,
 ⟨some 62, none, .chk (.t 61), none⟩,
 ⟨some 63, none, .fld 3 (.t 62), none⟩,
 ⟨some 64, none, .ld none (.t 63), none⟩,
 ⟨some 65, none, .mv false (.t 5), none⟩,
 ⟨some 66, none, .chk (.t 65), none⟩,
 ⟨some 67, none, .fld 2 (.t 66), none⟩,
 ⟨some 68, none, .ld none (.t 67), none⟩,
 ⟨some 69, none, .cpy 51 1 (.t 64) (.t 68), none⟩] (some [5])) (
.seq (.reg false [
 ⟨some 70, none, .mv false (.t 5), none⟩,
 ⟨some 2, none, .mv false (.t 70), none⟩] (some [2])) (
.ret))))))))
set_option maxRecDepth 1000000 in
theorem comp_plane_Of : (Tryz.f84.body.bind fun code => kD Tryz.prog Tryz.f84.ntmps code c_plane_Of) = some c_plane_Of.bare := by kernel_rfl
def va : List R := [.t 2]
theorem spm_plane_Of {ds : List D} {d : D} {bx bx' : List Ent} (hn : Nat.ble ds.length 71 = true) (h : run TSpC gtab (jZ bx) c_plane_Of (retG va (fun d1 bx1 => Rt (jZ bx) bx1 d1 d bx')) ⟨env0 0 ds, bx⟩) : TSpM 84 ds bx d bx' := qS kI c_plane_Of va (fn := Tryz.f84) (by kernel_rfl) (by kernel_rfl) comp_plane_Of (by kernel_rfl) hn h
def c_plane_Plane_Rect : C := .seq (.reg false [
 ⟨some 2, none, .alloc [(.int .i64 0), (.int .i64 0), (.int .i64 0), (.int .i64 0)], none⟩] (some [0, 2])) (
.seq (.reg true [
 ⟨some 3, none, .mv false (.t 0), none⟩,
 ⟨some 4, none, .chk (.t 3), none⟩,
 ⟨some 5, none, .fld 0 (.t 4), none⟩,
 ⟨some 6, none, .ld none (.t 5), none⟩,
 ⟨some 7, none, .mv false (.t 0), none⟩,
 ⟨some 8, none, .chk (.t 7), none⟩,
 ⟨some 9, none, .fld 1 (.t 8), none⟩,
 ⟨some 10, none, .ld none (.t 9), none⟩,
 ⟨some 11, none, .bld [(.int .i64 0), (.int .i64 0), (.int .i64 0), (.int .i64 0)] [(2, none, (.t 6)), (3, none, (.t 10))], none⟩,
 ⟨none, none, .st (some 4) (.t 2) (.t 11), none⟩] (some [2])) (
.ret))
set_option maxRecDepth 1000000 in
theorem vC : (Tryz.f85.body.bind fun code => kD Tryz.prog Tryz.f85.ntmps code c_plane_Plane_Rect) = some c_plane_Plane_Rect.bare := by kernel_rfl
def qm : List R := [.cell 2 (some 4)]
theorem spo_plane_Plane_Rect {ds : List D} {d : D} (hn : Nat.ble ds.length 12 = true) (h : run TSpC gtab 0 c_plane_Plane_Rect (retK qm (· = d)) ⟨env0 0 ds, []⟩) : TSp 85 ds d := k9 kI c_plane_Plane_Rect qm (fn := Tryz.f85) (by kernel_rfl) (by kernel_rfl) vC (by kernel_rfl) hn h
theorem spm_plane_Plane_Rect {ds : List D} {d : D} {bx bx' : List Ent} (hn : Nat.ble ds.length 12 = true) (h : run TSpC gtab (jZ bx) c_plane_Plane_Rect (retG qm (fun d1 bx1 => Rt (jZ bx) bx1 d1 d bx')) ⟨env0 0 ds, bx⟩) : TSpM 85 ds bx d bx' := qS kI c_plane_Plane_Rect qm (fn := Tryz.f85) (by kernel_rfl) (by kernel_rfl) vC (by kernel_rfl) hn h
def c_blit_move : C := .seq (.reg false [
 ⟨some 5, none, .box true (.t 1), none⟩,
 ⟨some 6, none, .box true (.t 2), none⟩] (some [0, 3, 5, 6])) (
.seq (.skip) (
.seq (.reg false [
 ⟨some 12, none, .ld (some 1) (.t 5), none⟩,
 ⟨some 13, none, .call false 76 [.t 12], none⟩,
 ⟨some 14, none, .len false (.t 13), none⟩,
 ⟨some 15, none, .mv false (.c (.int .i64 0)), none⟩] (some [0, 3, 6, 13, 14, 15])) (
.blk 0 (
 .loop (
 .seq (.reg false [
 ⟨some 16, none, .bin .lss .i64 (.t 15) (.t 14), none⟩] (some [0, 3, 6, 13, 14, 15, 16])) (
 .seq (.ite (.t 16) (
 .skip) (
 .exit 0)) (
 .seq (.blk 1 (
 .seq (.reg false [
 ⟨some 17, none, .ixs 4 (.t 13) (.t 15), none⟩,
 ⟨some 18, none, .ld (some 4) (.t 17), none⟩,
 ⟨some 9, none, .alloc [(.int .i64 0), (.int .i64 0), (.int .i64 0), (.int .i64 0)], none⟩,
 ⟨none, none, .st (some 4) (.t 9) (.t 18), none⟩] (some [0, 3, 6, 9, 13, 14, 15])) (
 .seq (.reg false [
 ⟨some 19, none, .fld 1 (.t 9), none⟩,
 ⟨some 20, none, .ld none (.t 19), none⟩,
 ⟨some 10, none, .mv false (.t 20), none⟩] (some [0, 3, 6, 9, 10, 13, 14, 15])) (
 .blk 2 (
 .loop (
 .seq (.blk 3 (
 .seq (.reg false [
 ⟨some 23, none, .fld 0 (.t 9), none⟩,
 ⟨some 24, none, .ld none (.t 23), none⟩,
 ⟨some 11, none, .mv false (.t 24), none⟩] (some [0, 3, 6, 9, 10, 11, 13, 14, 15])) (
 .blk 4 (
 .loop (
 .seq (.seq (.reg false [
 ⟨some 25, none, .mv false (.t 11), none⟩,
 ⟨some 26, none, .fld 0 (.t 9), none⟩,
 ⟨some 27, none, .ld none (.t 26), none⟩,
 ⟨some 28, none, .fld 2 (.t 9), none⟩,
 ⟨some 29, none, .ld none (.t 28), none⟩,
 ⟨some 30, none, .bin .add .i64 (.t 27) (.t 29), none⟩,
 ⟨some 31, none, .bin .lss .i64 (.t 25) (.t 30), none⟩] (some [0, 3, 6, 9, 10, 11, 13, 14, 15, 31])) (
 .ite (.t 31) (
 .skip) (
 .exit 4))) (
 .seq (.blk 5 (
 .seq (.seq (.reg false [
 ⟨some 34, none, .mv false (.t 10), none⟩,
 ⟨some 35, none, .fld 1 (.t 9), none⟩,
 ⟨some 36, none, .ld none (.t 35), none⟩,
 ⟨some 37, none, .fld 3 (.t 9), none⟩,
 ⟨some 38, none, .ld none (.t 37), none⟩,
 ⟨some 39, none, .bin .add .i64 (.t 36) (.t 38), none⟩,
 ⟨some 40, none, .bin .eql .i64 (.t 34) (.t 39), none⟩] (some [0, 3, 6, 9, 10, 11, 13, 14, 15, 40])) (
 .ite (.t 40) (
 .exit 1) (
 .skip))) (
 .reg true [
 ⟨some 41, none, .mv false (.t 0), none⟩,
 ⟨some 42, none, .mv false (.t 11), none⟩,
 ⟨some 43, none, .mv false (.t 10), none⟩,
 ⟨some 44, none, .fld 0 (.t 6), none⟩,
 ⟨some 45, none, .ld none (.t 44), none⟩,
 ⟨some 46, none, .mv false (.t 3), none⟩,
 ⟨some 47, none, .mv false (.t 11), none⟩,
 ⟨some 48, none, .mv false (.t 10), none⟩,
 ⟨some 49, none, .callv false (.t 46) [(.t 47), (.t 48)], none⟩,
 ⟨some 50, none, .mv false (.t 0), none⟩,
 ⟨some 51, none, .mv false (.t 11), none⟩,
 ⟨some 52, none, .mv false (.t 10), none⟩,
 ⟨some 53, none, .call false 88 [(.t 50), (.t 51), (.t 52)], none⟩,
 ⟨some 54, none, .fld 1 (.t 6), none⟩,
 ⟨some 55, none, .ld none (.t 54), none⟩,
 ⟨some 56, none, .call false 143 [(.t 45), (.t 49), (.t 53), (.t 55)], none⟩,
 ⟨some 57, none, .call true 142 [(.t 41), (.t 42), (.t 43), (.t 56)], none⟩] (some [0, 3, 6, 9, 10, 11, 13, 14, 15])))) (
 .reg false [
 ⟨some 32, none, .mv false (.t 11), none⟩,
 ⟨some 33, none, .bin .add .i64 (.t 32) (.c (.int .i64 1)), none⟩,
 ⟨some 11, none, .mv false (.t 33), none⟩] (some [0, 3, 6, 9, 10, 11, 13, 14, 15])))))))) (
 .reg false [
 ⟨some 21, none, .mv false (.t 10), none⟩,
 ⟨some 22, none, .bin .add .i64 (.t 21) (.c (.int .i64 1)), none⟩,
 ⟨some 10, none, .mv false (.t 22), none⟩] (some [0, 3, 6, 9, 10, 13, 14, 15])))))))) (
 .reg false [
 ⟨some 58, none, .bin .add .i64 (.t 15) (.c (.int .i64 1)), none⟩,
 ⟨some 15, none, .mv false (.t 58), none⟩] (some [0, 3, 6, 13, 14, 15])))))))))
set_option maxRecDepth 1000000 in
theorem comp_blit_move : (Tryz.f86.body.bind fun code => kD Tryz.prog Tryz.f86.ntmps code c_blit_move) = some c_blit_move.bare := by kernel_rfl
def kQ : List R := []
theorem spm_blit_move {ds : List D} {d : D} {bx bx' : List Ent} (hn : Nat.ble ds.length 59 = true) (h : run TSpC gtab (jZ bx) c_blit_move (retG kQ (fun d1 bx1 => Rt (jZ bx) bx1 d1 d bx')) ⟨env0 0 ds, bx⟩) : TSpM 86 ds bx d bx' := qS kI c_blit_move kQ (fn := Tryz.f86) (by kernel_rfl) (by kernel_rfl) comp_blit_move (by kernel_rfl) hn h
def c_blit_Scroll_1 : C := .seq (.reg false [
 ⟨some 7, none, .mv false (.c (.int .u8 0)), none⟩] (some [0, 1, 2, 3, 4])) (
.seq (.reg false [
 ⟨some 8, none, .ld none (.t 2), none⟩,
 ⟨some 9, none, .mv false (.t 0), none⟩,
 ⟨some 10, none, .ld none (.t 3), none⟩,
 ⟨some 11, none, .bin .sub .i64 (.t 9) (.t 10), none⟩,
 ⟨some 12, none, .mv false (.t 1), none⟩,
 ⟨some 13, none, .ld none (.t 4), none⟩,
 ⟨some 14, none, .bin .sub .i64 (.t 12) (.t 13), none⟩,
 ⟨some 15, none, .call false 88 [(.t 8), (.t 11), (.t 14)], none⟩,
 ⟨some 7, none, .mv false (.t 15), none⟩] (some [7])) (
.ret))
set_option maxRecDepth 1000000 in
theorem comp_blit_Scroll_1 : (Tryz.f87.body.bind fun code => kD Tryz.prog Tryz.f87.ntmps code c_blit_Scroll_1) = some c_blit_Scroll_1.bare := by kernel_rfl
def zZ : List R := [.t 7]
theorem spm_blit_Scroll_1 {ds : List D} {d : D} {bx bx' : List Ent} (hn : Nat.ble ds.length 16 = true) (h : run TSpC gtab (jZ bx) c_blit_Scroll_1 (retG zZ (fun d1 bx1 => Rt (jZ bx) bx1 d1 d bx')) ⟨env0 0 ds, bx⟩) : TSpM 87 ds bx d bx' := qS kI c_blit_Scroll_1 zZ (fn := Tryz.f87) (by kernel_rfl) (by kernel_rfl) comp_blit_Scroll_1 (by kernel_rfl) hn h
def c_plane_Plane_Was : C := .seq (.reg false [
 ⟨some 6, none, .mv false (.c (.int .u8 0)), none⟩] (some [0, 1, 2])) (
.seq (.reg true [
 ⟨some 7, none, .mv false (.t 0), none⟩,
 ⟨some 8, none, .chk (.t 7), none⟩,
 ⟨some 9, none, .fld 2 (.t 8), none⟩,
 ⟨some 10, none, .ld none (.t 9), none⟩,
 ⟨some 11, none, .mv false (.t 2), none⟩,
 ⟨some 12, none, .mv false (.t 0), none⟩,
 ⟨some 13, none, .chk (.t 12), none⟩,
 ⟨some 14, none, .fld 0 (.t 13), none⟩,
 ⟨some 15, none, .ld none (.t 14), none⟩,
 ⟨some 16, none, .bin .mul .i64 (.t 11) (.t 15), none⟩,
 ⟨some 17, none, .mv false (.t 1), none⟩,
 ⟨some 18, none, .bin .add .i64 (.t 16) (.t 17), none⟩,
 ⟨some 19, none, .ixs 1 (.t 10) (.t 18), none⟩,
 ⟨some 20, none, .ld none (.t 19), none⟩,
 ⟨some 6, none, .mv false (.t 20), none⟩] (some [6])) (
.ret))
set_option maxRecDepth 1000000 in
theorem xh : (Tryz.f88.body.bind fun code => kD Tryz.prog Tryz.f88.ntmps code c_plane_Plane_Was) = some c_plane_Plane_Was.bare := by kernel_rfl
def k8 : List R := [.t 6]
theorem spo_plane_Plane_Was {ds : List D} {d : D} (hn : Nat.ble ds.length 21 = true) (h : run TSpC gtab 0 c_plane_Plane_Was (retK k8 (· = d)) ⟨env0 0 ds, []⟩) : TSp 88 ds d := k9 kI c_plane_Plane_Was k8 (fn := Tryz.f88) (by kernel_rfl) (by kernel_rfl) xh (by kernel_rfl) hn h
theorem spm_plane_Plane_Was {ds : List D} {d : D} {bx bx' : List Ent} (hn : Nat.ble ds.length 21 = true) (h : run TSpC gtab (jZ bx) c_plane_Plane_Was (retG k8 (fun d1 bx1 => Rt (jZ bx) bx1 d1 d bx')) ⟨env0 0 ds, bx⟩) : TSpM 88 ds bx d bx' := qS kI c_plane_Plane_Was k8 (fn := Tryz.f88) (by kernel_rfl) (by kernel_rfl) xh (by kernel_rfl) hn h
def c_plane_Plane_Grid : C := .seq (.reg false [
 ⟨some 2, none, .alloc [(.int .i64 0), (.int .i64 0), (.ls 1 [])], none⟩] (some [0, 2])) (
.seq (.reg false [
 ⟨some 6, none, .mv false (.t 0), none⟩,
 ⟨some 7, none, .chk (.t 6), none⟩,
 ⟨some 8, none, .fld 4 (.t 7), none⟩,
 ⟨some 9, none, .ld (some 3) (.t 8), none⟩,
 ⟨some 3, none, .alloc [(.int .i64 0), (.int .i64 0), (.ls 1 [])], none⟩,
 ⟨none, none, .st (some 3) (.t 3) (.t 9), none⟩] (some [0, 2, 3])) (
.seq (.seq (.reg false [
 ⟨some 10, none, .mv false (.t 0), none⟩,
 ⟨some 11, none, .call false 144 [.t 10], none⟩,
 ⟨some 12, none, .len false (.t 11), none⟩,
 ⟨some 13, none, .mv false (.c (.int .i64 0)), none⟩] (some [2, 3, 11, 12, 13])) (
.blk 0 (
 .loop (
 .seq (.reg false [
 ⟨some 14, none, .bin .lss .i64 (.t 13) (.t 12), none⟩] (some [2, 3, 11, 12, 13, 14])) (
 .seq (.ite (.t 14) (
 .skip) (
 .exit 0)) (
 .seq (.blk 1 (
 .seq (.reg false [
 ⟨some 15, none, .mv false (.t 13), none⟩,
 ⟨some 16, none, .ixs 1 (.t 11) (.t 13), none⟩,
 ⟨some 17, none, .ld none (.t 16), none⟩,
 ⟨some 4, none, .mv false (.t 15), none⟩,
 ⟨some 5, none, .mv false (.t 17), none⟩] (some [2, 3, 4, 5, 11, 12, 13])) (
 .seq (.reg false [
 ⟨some 18, none, .mv false (.t 5), none⟩,
 ⟨some 19, none, .len false (.t 18), none⟩,
 ⟨some 20, none, .bin .gtr .i64 (.t 19) (.c (.int .i64 0)), none⟩] (some [2, 3, 4, 5, 11, 12, 13, 20])) (
 .ite (.t 20) (
 .reg true [
 ⟨some 21, none, .ld (some 3) (.t 3), none⟩,
 ⟨some 22, none, .mv false (.t 5), none⟩,
 ⟨some 23, none, .call false 11 [.t 22], none⟩,
 ⟨some 24, none, .mv false (.t 4), none⟩,
 ⟨some 25, none, .conv .u8 (.t 24), none⟩,
 ⟨some 26, none, .call false 113 [(.t 21), (.t 23), (.t 25)], none⟩,
 ⟨none, none, .st (some 3) (.t 3) (.t 26), none⟩] (some [2, 3, 11, 12, 13])) (
 .skip))))) (
 .reg false [
 ⟨some 27, none, .bin .add .i64 (.t 13) (.c (.int .i64 1)), none⟩,
 ⟨some 13, none, .mv false (.t 27), none⟩] (some [2, 3, 11, 12, 13])))))))) (
.seq (.reg false [
 ⟨some 28, none, .ld (some 3) (.t 3), none⟩,
 ⟨none, none, .st (some 3) (.t 2) (.t 28), none⟩] (some [2])) (
.ret))))
set_option maxRecDepth 1000000 in
theorem comp_plane_Plane_Grid : (Tryz.f89.body.bind fun code => kD Tryz.prog Tryz.f89.ntmps code c_plane_Plane_Grid) = some c_plane_Plane_Grid.bare := by kernel_rfl
def qn : List R := [.cell 2 (some 3)]
theorem spm_plane_Plane_Grid {ds : List D} {d : D} {bx bx' : List Ent} (hn : Nat.ble ds.length 29 = true) (h : run TSpC gtab (jZ bx) c_plane_Plane_Grid (retG qn (fun d1 bx1 => Rt (jZ bx) bx1 d1 d bx')) ⟨env0 0 ds, bx⟩) : TSpM 89 ds bx d bx' := qS kI c_plane_Plane_Grid qn (fn := Tryz.f89) (by kernel_rfl) (by kernel_rfl) comp_plane_Plane_Grid (by kernel_rfl) hn h
def c_grid_Grid_Fill : C := .seq (.reg false [
 ⟨some 3, none, .box true (.t 0), none⟩,
 ⟨some 4, none, .box true (.t 1), none⟩,
 ⟨some 5, none, .box false (.t 2), none⟩,
 ⟨some 6, none, .alloc [(.int .i64 0), (.int .i64 0), (.ls 1 [])], none⟩] (some [3, 4, 5, 6])) (
.seq (.reg false [
 ⟨some 8, none, .ld (some 3) (.t 3), none⟩,
 ⟨some 9, none, .call true 78 [.t 8], none⟩,
 ⟨some 7, none, .alloc [(.int .i64 0), (.int .i64 0), (.ls 1 [])], none⟩,
 ⟨none, none, .st (some 3) (.t 7) (.t 9), none⟩] (some [4, 5, 6, 7])) (
.seq (.reg false [
 ⟨some 10, none, .ld (some 3) (.t 7), none⟩,
 ⟨some 11, none, .ld (some 1) (.t 4), none⟩,
 ⟨some 12, none, .clo 163 [(.t 5), (.t 7)], none⟩,
 ⟨some 13, none, .call true 79 [(.t 10), (.t 11), (.t 12)], none⟩] (some [6, 7])) (
.seq (.reg false [
 ⟨some 14, none, .ld (some 3) (.t 7), none⟩,
 ⟨none, none, .st (some 3) (.t 6) (.t 14), none⟩] (some [6])) (
.ret))))
set_option maxRecDepth 1000000 in
theorem comp_grid_Grid_Fill : (Tryz.f113.body.bind fun code => kD Tryz.prog Tryz.f113.ntmps code c_grid_Grid_Fill) = some c_grid_Grid_Fill.bare := by kernel_rfl
def zd : List R := [.cell 6 (some 3)]
theorem spo_grid_Grid_Fill {ds : List D} {d : D} (hn : Nat.ble ds.length 15 = true) (h : run TSpC gtab 0 c_grid_Grid_Fill (retK zd (· = d)) ⟨env0 0 ds, []⟩) : TSp 113 ds d := k9 kI c_grid_Grid_Fill zd (fn := Tryz.f113) (by kernel_rfl) (by kernel_rfl) comp_grid_Grid_Fill (by kernel_rfl) hn h
def c_band_fits : C := .seq (.reg false [
 ⟨some 4, none, .mv false (.c (.bool false)), none⟩] (some [0, 1])) (
.seq (.reg false [
 ⟨some 5, none, .mv false (.t 0), none⟩,
 ⟨some 6, none, .bin .geq .i64 (.t 5) (.c (.int .i64 (-1048576))), none⟩,
 ⟨some 7, none, .mv false (.t 6), none⟩,
 ⟨some 8, some (7, true), .mv false (.t 1), none⟩,
 ⟨some 9, some (7, true), .bin .gtr .i64 (.t 8) (.c (.int .i64 0)), none⟩,
 ⟨some 10, none, .pick (.t 7) (.t 9) (.c (.bool false)), none⟩,
 ⟨some 11, none, .mv false (.t 10), none⟩,
 ⟨some 12, some (11, true), .mv false (.t 1), none⟩,
 ⟨some 13, some (11, true), .mv false (.t 0), none⟩,
 ⟨some 14, some (11, true), .bin .sub .i64 (.c (.int .i64 1048576)) (.t 13), none⟩,
 ⟨some 15, some (11, true), .bin .leq .i64 (.t 12) (.t 14), none⟩,
 ⟨some 16, none, .pick (.t 11) (.t 15) (.c (.bool false)), none⟩,
 ⟨some 4, none, .mv false (.t 16), none⟩] (some [4])) (
.ret))
set_option maxRecDepth 1000000 in
theorem comp_band_fits : (Tryz.f121.body.bind fun code => kD Tryz.prog Tryz.f121.ntmps code c_band_fits) = some c_band_fits.bare := by kernel_rfl
def r_band_fits : List R := [.t 4]
theorem spo_band_fits {ds : List D} {d : D} (hn : Nat.ble ds.length 17 = true) (h : run TSpC gtab 0 c_band_fits (retK r_band_fits (· = d)) ⟨env0 0 ds, []⟩) : TSp 121 ds d := k9 kI c_band_fits r_band_fits (fn := Tryz.f121) (by kernel_rfl) (by kernel_rfl) comp_band_fits (by kernel_rfl) hn h
def c_slices_IndexFunc_api_Rect_api_Rect : C := .seq (.reg false [
 ⟨some 4, none, .mv false (.c (.int .i64 0)), none⟩] (some [0, 1])) (
.seq (.seq (.reg false [
 ⟨some 6, none, .mv false (.t 0), none⟩,
 ⟨some 7, none, .len false (.t 6), none⟩,
 ⟨some 8, none, .mv false (.c (.int .i64 0)), none⟩] (some [0, 1, 7, 8])) (
.blk 0 (
 .loop (
 .seq (.reg false [
 ⟨some 9, none, .bin .lss .i64 (.t 8) (.t 7), none⟩] (some [0, 1, 7, 8, 9])) (
 .seq (.ite (.t 9) (
 .skip) (
 .exit 0)) (
 .seq (.blk 1 (
 .seq (.reg false [
 ⟨some 10, none, .mv false (.t 8), none⟩,
 ⟨some 5, none, .mv false (.t 10), none⟩] (some [0, 1, 5, 7, 8])) (
 .seq (.reg false [
 ⟨some 11, none, .mv false (.t 1), none⟩,
 ⟨some 12, none, .mv false (.t 0), none⟩,
 ⟨some 13, none, .mv false (.t 5), none⟩,
 ⟨some 14, none, .ixs 4 (.t 12) (.t 13), none⟩,
 ⟨some 15, none, .ld (some 4) (.t 14), none⟩,
 ⟨some 16, none, .callv false (.t 11) [.t 15], none⟩] (some [0, 1, 5, 7, 8, 16])) (
 .ite (.t 16) (
 .seq (.reg false [
 ⟨some 17, none, .mv false (.t 5), none⟩,
 ⟨some 4, none, .mv false (.t 17), none⟩] (some [4])) (
 .ret)) (
 .skip))))) (
 .reg false [
 ⟨some 18, none, .bin .add .i64 (.t 8) (.c (.int .i64 1)), none⟩,
 ⟨some 8, none, .mv false (.t 18), none⟩] (some [0, 1, 7, 8])))))))) (
.seq (.reg false [
 ⟨some 4, none, .mv false (.c (.int .i64 (-1))), none⟩] (some [4])) (
.ret)))
set_option maxRecDepth 1000000 in
theorem zA : (Tryz.f127.body.bind fun code => kD Tryz.prog Tryz.f127.ntmps code c_slices_IndexFunc_api_Rect_api_Rect) = some c_slices_IndexFunc_api_Rect_api_Rect.bare := by kernel_rfl
def kL : List R := [.t 4]
theorem zB {ds : List D} {d : D} {bx bx' : List Ent} (hn : Nat.ble ds.length 19 = true) (h : run TSpC gtab (jZ bx) c_slices_IndexFunc_api_Rect_api_Rect (retG kL (fun d1 bx1 => Rt (jZ bx) bx1 d1 d bx')) ⟨env0 0 ds, bx⟩) : TSpM 127 ds bx d bx' := qS kI c_slices_IndexFunc_api_Rect_api_Rect kL (fn := Tryz.f127) (by kernel_rfl) (by kernel_rfl) zA (by kernel_rfl) hn h
def c_band_spans_1 : C := .seq (.reg false [
 ⟨some 3, none, .mv false (.c (.int .i64 0)), none⟩] (some [0, 1, 3])) (
.blk 0 (
 .loop (
 .seq (.seq (.reg false [
 ⟨some 5, none, .mv false (.t 3), none⟩,
 ⟨some 6, none, .ld none (.t 1), none⟩,
 ⟨some 7, none, .len false (.t 6), none⟩,
 ⟨some 8, none, .bin .lss .i64 (.t 5) (.t 7), none⟩] (some [0, 1, 3, 8])) (
 .ite (.t 8) (
 .skip) (
 .exit 0))) (
 .blk 1 (
 .seq (.reg true [
 ⟨some 9, none, .ld none (.t 1), some [7]⟩,
 ⟨some 10, none, .mv false (.t 3), none⟩,
 ⟨some 11, none, .ixs 4 (.t 9) (.t 10), some [4]⟩,
 ⟨some 12, none, .fld 0 (.t 11), none⟩,
 ⟨some 13, none, .ld none (.t 12), some [4]⟩,
 ⟨some 14, none, .ld none (.t 1), some [7]⟩,
 ⟨some 15, none, .mv false (.t 3), none⟩,
 ⟨some 16, none, .ixs 4 (.t 14) (.t 15), some [4]⟩,
 ⟨some 17, none, .fld 0 (.t 16), none⟩,
 ⟨some 18, none, .ld none (.t 17), some [4]⟩,
 ⟨some 19, none, .ld none (.t 1), some [7]⟩,
 ⟨some 20, none, .mv false (.t 3), none⟩,
 ⟨some 21, none, .ixs 4 (.t 19) (.t 20), some [4]⟩,
 ⟨some 22, none, .fld 2 (.t 21), none⟩,
 ⟨some 23, none, .ld none (.t 22), some [4]⟩,
 ⟨some 24, none, .bin .add .i64 (.t 18) (.t 23), none⟩,
 ⟨some 25, none, .bld [(.int .i64 0), (.int .i64 0)] [(0, none, (.t 13)), (1, none, (.t 24))], none⟩,
 ⟨some 4, none, .alloc [(.int .i64 0), (.int .i64 0)], some [9]⟩,
 ⟨none, none, .st (some 2) (.t 4) (.t 25), some [9]⟩] (some [0, 1, 3, 4])) (
 .seq (.seq (.reg false [
 ⟨some 26, none, .mv false (.t 3), none⟩,
 ⟨some 27, none, .bin .add .i64 (.t 26) (.c (.int .i64 1)), none⟩,
 ⟨some 3, none, .mv false (.t 27), none⟩] (some [0, 1, 3, 4])) (
 .blk 2 (
 .loop (
 .seq (.seq (.reg true [
 ⟨some 28, none, .mv false (.t 3), none⟩,
 ⟨some 29, none, .ld none (.t 1), none⟩,
 ⟨some 30, none, .len false (.t 29), none⟩,
 ⟨some 31, none, .bin .lss .i64 (.t 28) (.t 30), none⟩,
 ⟨some 32, none, .mv false (.t 31), none⟩,
 ⟨some 33, some (32, true), .ld none (.t 1), none⟩,
 ⟨some 34, some (32, true), .mv false (.t 3), none⟩,
 ⟨some 35, some (32, true), .ixs 4 (.t 33) (.t 34), none⟩,
 ⟨some 36, some (32, true), .fld 0 (.t 35), none⟩,
 ⟨some 37, some (32, true), .ld none (.t 36), none⟩,
 ⟨some 38, some (32, true), .fld 1 (.t 4), none⟩,
 ⟨some 39, some (32, true), .ld none (.t 38), none⟩,
 ⟨some 40, some (32, true), .bin .leq .i64 (.t 37) (.t 39), none⟩,
 ⟨some 41, none, .pick (.t 32) (.t 40) (.c (.bool false)), none⟩] (some [0, 1, 3, 4, 41])) (
 .ite (.t 41) (
 .skip) (
 .exit 2))) (
 .seq (.blk 3 (
 .reg true [
 ⟨some 44, none, .fld 1 (.t 4), none⟩,
 ⟨some 45, none, .ld none (.t 44), none⟩,
 ⟨some 46, none, .ld none (.t 1), none⟩,
 ⟨some 47, none, .mv false (.t 3), none⟩,
 ⟨some 48, none, .ixs 4 (.t 46) (.t 47), none⟩,
 ⟨some 49, none, .fld 0 (.t 48), none⟩,
 ⟨some 50, none, .ld none (.t 49), none⟩,
 ⟨some 51, none, .ld none (.t 1), none⟩,
 ⟨some 52, none, .mv false (.t 3), none⟩,
 ⟨some 53, none, .ixs 4 (.t 51) (.t 52), none⟩,
 ⟨some 54, none, .fld 2 (.t 53), none⟩,
 ⟨some 55, none, .ld none (.t 54), none⟩,
 ⟨some 56, none, .bin .add .i64 (.t 50) (.t 55), none⟩,
 ⟨some 57, none, .mx (.t 45) (.t 56), none⟩,
 ⟨some 58, none, .fld 1 (.t 4), none⟩,
 ⟨none, none, .st none (.t 58) (.t 57), none⟩] (some [0, 1, 3, 4]))) (
 .reg false [
 ⟨some 42, none, .mv false (.t 3), none⟩,
 ⟨some 43, none, .bin .add .i64 (.t 42) (.c (.int .i64 1)), none⟩,
 ⟨some 3, none, .mv false (.t 43), none⟩] (some [0, 1, 3, 4]))))))) (
 .seq (.reg false [
 ⟨some 59, none, .mv false (.t 0), none⟩,
 ⟨some 60, none, .ld (some 2) (.t 4), none⟩,
 ⟨some 61, none, .prm false true (.yld [154]) [(.t 59), (.t 60)], none⟩,
 ⟨some 62, none, .not (.t 61), none⟩] (some [0, 1, 3, 62])) (
 .ite (.t 62) (
 .ret) (
 .skip)))))))))
set_option maxRecDepth 1000000 in
theorem comp_band_spans_1 : (Tryz.f128.body.bind fun code => kD Tryz.prog Tryz.f128.ntmps code c_band_spans_1) = some c_band_spans_1.bare := by kernel_rfl
def qb : List R := []
def c_slices_EqualFunc_api_Rect_api_Rect_api_Rect_api_Rect : C := .seq (.reg false [
 ⟨some 6, none, .mv false (.c (.bool false)), none⟩] (some [0, 1, 2])) (
.seq (.seq (.reg false [
 ⟨some 10, none, .mv false (.t 0), none⟩,
 ⟨some 11, none, .len false (.t 10), none⟩,
 ⟨some 12, none, .mv false (.t 1), none⟩,
 ⟨some 13, none, .len false (.t 12), none⟩,
 ⟨some 14, none, .bin .neq .i64 (.t 11) (.t 13), none⟩] (some [0, 1, 2, 14])) (
.ite (.t 14) (
 .seq (.reg false [
 ⟨some 6, none, .mv false (.c (.bool false)), none⟩] (some [6])) (
 .ret)) (
 .skip))) (
.seq (.seq (.reg false [
 ⟨some 15, none, .mv false (.t 0), none⟩,
 ⟨some 16, none, .len false (.t 15), none⟩,
 ⟨some 17, none, .mv false (.c (.int .i64 0)), none⟩] (some [1, 2, 15, 16, 17])) (
.blk 0 (
 .loop (
 .seq (.reg false [
 ⟨some 18, none, .bin .lss .i64 (.t 17) (.t 16), none⟩] (some [1, 2, 15, 16, 17, 18])) (
 .seq (.ite (.t 18) (
 .skip) (
 .exit 0)) (
 .seq (.blk 1 (
 .seq (.reg false [
 ⟨some 19, none, .mv false (.t 17), none⟩,
 ⟨some 20, none, .ixs 4 (.t 15) (.t 17), none⟩,
 ⟨some 21, none, .ld (some 4) (.t 20), none⟩,
 ⟨some 8, none, .alloc [(.int .i64 0), (.int .i64 0), (.int .i64 0), (.int .i64 0)], none⟩,
 ⟨some 7, none, .mv false (.t 19), none⟩,
 ⟨none, none, .st (some 4) (.t 8) (.t 21), none⟩] (some [1, 2, 7, 8, 15, 16, 17])) (
 .seq (.reg false [
 ⟨some 22, none, .mv false (.t 1), none⟩,
 ⟨some 23, none, .mv false (.t 7), none⟩,
 ⟨some 24, none, .ixs 4 (.t 22) (.t 23), none⟩,
 ⟨some 25, none, .ld (some 4) (.t 24), none⟩,
 ⟨some 9, none, .alloc [(.int .i64 0), (.int .i64 0), (.int .i64 0), (.int .i64 0)], none⟩,
 ⟨none, none, .st (some 4) (.t 9) (.t 25), none⟩] (some [1, 2, 8, 9, 15, 16, 17])) (
 .seq (.reg false [
 ⟨some 26, none, .mv false (.t 2), none⟩,
 ⟨some 27, none, .ld (some 4) (.t 8), none⟩,
 ⟨some 28, none, .ld (some 4) (.t 9), none⟩,
 ⟨some 29, none, .callv false (.t 26) [(.t 27), (.t 28)], none⟩,
 ⟨some 30, none, .not (.t 29), none⟩] (some [1, 2, 15, 16, 17, 30])) (
 .ite (.t 30) (
 .seq (.reg false [
 ⟨some 6, none, .mv false (.c (.bool false)), none⟩] (some [6])) (
 .ret)) (
 .skip)))))) (
 .reg false [
 ⟨some 31, none, .bin .add .i64 (.t 17) (.c (.int .i64 1)), none⟩,
 ⟨some 17, none, .mv false (.t 31), none⟩] (some [1, 2, 15, 16, 17])))))))) (
.seq (.reg false [
 ⟨some 6, none, .mv false (.c (.bool true)), none⟩] (some [6])) (
.ret))))
set_option maxRecDepth 1000000 in
theorem qL : (Tryz.f129.body.bind fun code => kD Tryz.prog Tryz.f129.ntmps code c_slices_EqualFunc_api_Rect_api_Rect_api_Rect_api_Rect) = some c_slices_EqualFunc_api_Rect_api_Rect_api_Rect_api_Rect.bare := by kernel_rfl
def kx : List R := [.t 6]
theorem qM {ds : List D} {d : D} (hn : Nat.ble ds.length 32 = true) (h : run TSpC gtab 0 c_slices_EqualFunc_api_Rect_api_Rect_api_Rect_api_Rect (retK kx (· = d)) ⟨env0 0 ds, []⟩) : TSp 129 ds d := k9 kI c_slices_EqualFunc_api_Rect_api_Rect_api_Rect_api_Rect kx (fn := Tryz.f129) (by kernel_rfl) (by kernel_rfl) qL (by kernel_rfl) hn h
def c_band_alike_1 : C := .seq (.reg false [
 ⟨some 2, none, .box true (.t 0), none⟩,
 ⟨some 3, none, .box true (.t 1), none⟩,
 ⟨some 4, none, .mv false (.c (.bool false)), none⟩] (some [2, 3])) (
.seq (.reg false [
 ⟨some 5, none, .fld 0 (.t 2), none⟩,
 ⟨some 6, none, .ld none (.t 5), none⟩,
 ⟨some 7, none, .fld 0 (.t 3), none⟩,
 ⟨some 8, none, .ld none (.t 7), none⟩,
 ⟨some 9, none, .bin .eql .i64 (.t 6) (.t 8), none⟩,
 ⟨some 10, none, .mv false (.t 9), none⟩,
 ⟨some 11, some (10, true), .fld 2 (.t 2), none⟩,
 ⟨some 12, some (10, true), .ld none (.t 11), none⟩,
 ⟨some 13, some (10, true), .fld 2 (.t 3), none⟩,
 ⟨some 14, some (10, true), .ld none (.t 13), none⟩,
 ⟨some 15, some (10, true), .bin .eql .i64 (.t 12) (.t 14), none⟩,
 ⟨some 16, none, .pick (.t 10) (.t 15) (.c (.bool false)), none⟩,
 ⟨some 17, none, .mv false (.t 16), none⟩,
 ⟨some 18, some (17, true), .fld 1 (.t 2), none⟩,
 ⟨some 19, some (17, true), .ld none (.t 18), none⟩,
 ⟨some 20, some (17, true), .fld 3 (.t 2), none⟩,
 ⟨some 21, some (17, true), .ld none (.t 20), none⟩,
 ⟨some 22, some (17, true), .bin .add .i64 (.t 19) (.t 21), none⟩,
 ⟨some 23, some (17, true), .fld 1 (.t 3), none⟩,
 ⟨some 24, some (17, true), .ld none (.t 23), none⟩,
 ⟨some 25, some (17, true), .bin .eql .i64 (.t 22) (.t 24), none⟩,
 ⟨some 26, none, .pick (.t 17) (.t 25) (.c (.bool false)), none⟩,
 ⟨some 4, none, .mv false (.t 26), none⟩] (some [4])) (
.ret))
set_option maxRecDepth 1000000 in
theorem comp_band_alike_1 : (Tryz.f130.body.bind fun code => kD Tryz.prog Tryz.f130.ntmps code c_band_alike_1) = some c_band_alike_1.bare := by kernel_rfl
def xD : List R := [.t 4]
theorem spo_band_alike_1 {ds : List D} {d : D} (hn : Nat.ble ds.length 27 = true) (h : run TSpC gtab 0 c_band_alike_1 (retK xD (· = d)) ⟨env0 0 ds, []⟩) : TSp 130 ds d := k9 kI c_band_alike_1 xD (fn := Tryz.f130) (by kernel_rfl) (by kernel_rfl) comp_band_alike_1 (by kernel_rfl) hn h
def c_region_cuts : C := .seq (.reg false [
 ⟨some 4, none, .nilS 3 1, none⟩] (some [0, 1])) (
.seq (.reg false [
 ⟨some 5, none, .nilS 3 1, none⟩] (some [0, 1, 5])) (
.seq (.seq (.reg false [
 ⟨some 12, none, .mv false (.t 1), none⟩,
 ⟨some 13, none, .len false (.t 12), none⟩,
 ⟨some 14, none, .mv false (.c (.int .i64 0)), none⟩] (some [0, 5, 12, 13, 14])) (
.blk 0 (
 .loop (
 .seq (.reg false [
 ⟨some 15, none, .bin .lss .i64 (.t 14) (.t 13), none⟩] (some [0, 5, 12, 13, 14, 15])) (
 .seq (.ite (.t 15) (
 .skip) (
 .exit 0)) (
 .seq (.blk 1 (
 .seq (.reg false [
 ⟨some 16, none, .ixs 1 (.t 12) (.t 14), none⟩,
 ⟨some 17, none, .ld none (.t 16), none⟩,
 ⟨some 7, none, .mv false (.t 17), none⟩] (some [0, 5, 7, 12, 13, 14])) (
 .seq (.reg false [
 ⟨some 18, none, .mv false (.t 7), none⟩,
 ⟨some 19, none, .len false (.t 18), none⟩,
 ⟨some 20, none, .mv false (.c (.int .i64 0)), none⟩] (some [0, 5, 12, 13, 14, 18, 19, 20])) (
 .blk 2 (
 .loop (
 .seq (.reg false [
 ⟨some 21, none, .bin .lss .i64 (.t 20) (.t 19), none⟩] (some [0, 5, 12, 13, 14, 18, 19, 20, 21])) (
 .seq (.ite (.t 21) (
 .skip) (
 .exit 2)) (
 .seq (.blk 3 (
 .seq (.reg false [
 ⟨some 22, none, .ixs 4 (.t 18) (.t 20), none⟩,
 ⟨some 23, none, .ld (some 4) (.t 22), none⟩,
 ⟨some 9, none, .alloc [(.int .i64 0), (.int .i64 0), (.int .i64 0), (.int .i64 0)], none⟩,
 ⟨none, none, .st (some 4) (.t 9) (.t 23), none⟩] (some [0, 5, 9, 12, 13, 14, 18, 19, 20])) (
 .seq (.reg false [
 ⟨some 25, none, .mv false (.t 0), none⟩,
 ⟨some 26, none, .ld (some 4) (.t 9), none⟩,
 ⟨some 27, none, .callv false (.t 25) [.t 26], none⟩,
 ⟨some 24, none, .mv false (.t 27), none⟩,
 ⟨some 28, none, .ext (.t 24) 0, none⟩,
 ⟨some 29, none, .ext (.t 24) 1, none⟩,
 ⟨some 10, none, .mv false (.t 28), none⟩,
 ⟨some 11, none, .mv false (.t 29), none⟩] (some [0, 5, 10, 11, 12, 13, 14, 18, 19, 20])) (
 .reg false [
 ⟨some 30, none, .mv false (.t 5), none⟩,
 ⟨some 31, none, .mv false (.t 10), none⟩,
 ⟨some 32, none, .mv false (.t 10), none⟩,
 ⟨some 33, none, .mv false (.t 11), none⟩,
 ⟨some 34, none, .bin .add .i64 (.t 32) (.t 33), none⟩,
 ⟨some 35, none, .bsl none 3 1 none [(.t 31), (.t 34)], none⟩,
 ⟨some 36, none, .app 3 1 8 (.t 30) (.t 35), none⟩,
 ⟨some 5, none, .mv false (.t 36), none⟩] (some [0, 5, 12, 13, 14, 18, 19, 20]))))) (
 .reg false [
 ⟨some 37, none, .bin .add .i64 (.t 20) (.c (.int .i64 1)), none⟩,
 ⟨some 20, none, .mv false (.t 37), none⟩] (some [0, 5, 12, 13, 14, 18, 19, 20])))))))))) (
 .reg false [
 ⟨some 38, none, .bin .add .i64 (.t 14) (.c (.int .i64 1)), none⟩,
 ⟨some 14, none, .mv false (.t 38), none⟩] (some [0, 5, 12, 13, 14])))))))) (
.seq (.reg false [
 ⟨some 39, none, .mv false (.t 5), none⟩,
 ⟨some 40, none, .call true 125 [.t 39], none⟩] (some [5])) (
.seq (.reg false [
 ⟨some 41, none, .mv false (.t 5), none⟩,
 ⟨some 42, none, .call true 126 [.t 41], none⟩,
 ⟨some 4, none, .mv false (.t 42), none⟩] (some [4])) (
.ret)))))
set_option maxRecDepth 1000000 in
theorem comp_region_cuts : (Tryz.f131.body.bind fun code => kD Tryz.prog Tryz.f131.ntmps code c_region_cuts) = some c_region_cuts.bare := by kernel_rfl
def qB : List R := [.t 4]
theorem spo_region_cuts {ds : List D} {d : D} (hn : Nat.ble ds.length 43 = true) (h : run TSpC gtab 0 c_region_cuts (retK qB (· = d)) ⟨env0 0 ds, []⟩) : TSp 131 ds d := k9 kI c_region_cuts qB (fn := Tryz.f131) (by kernel_rfl) (by kernel_rfl) comp_region_cuts (by kernel_rfl) hn h
def c_region_rule_join_1 : C := .seq (.reg false [
 ⟨some 1, none, .box true (.t 0), none⟩,
 ⟨some 2, none, .mv false (.c (.int .i64 0)), none⟩,
 ⟨some 3, none, .mv false (.c (.int .i64 0)), none⟩] (some [1])) (
.seq (.reg true [
 ⟨some 4, none, .fld 1 (.t 1), none⟩,
 ⟨some 5, none, .ld none (.t 4), none⟩,
 ⟨some 6, none, .fld 3 (.t 1), none⟩,
 ⟨some 7, none, .ld none (.t 6), none⟩,
 ⟨some 2, none, .mv false (.t 5), none⟩,
 ⟨some 3, none, .mv false (.t 7), none⟩] (some [2, 3])) (
.ret))
set_option maxRecDepth 1000000 in
theorem yg : (Tryz.f132.body.bind fun code => kD Tryz.prog Tryz.f132.ntmps code c_region_rule_join_1) = some c_region_rule_join_1.bare := by kernel_rfl
def zE : List R := [.t 2, .t 3]
theorem yk {ds : List D} {d : D} (hn : Nat.ble ds.length 8 = true) (h : run TSpC gtab 0 c_region_rule_join_1 (retK zE (· = d)) ⟨env0 0 ds, []⟩) : TSp 132 ds d := k9 kI c_region_rule_join_1 zE (fn := Tryz.f132) (by kernel_rfl) (by kernel_rfl) yg (by kernel_rfl) hn h
def c_region_walk_row : C := .seq (.reg false [
 ⟨some 4, none, .nilS 45 4, none⟩] (some [0, 1])) (
.seq (.blk 0 (
 .loop (
 .seq (.seq (.reg true [
 ⟨some 6, none, .mv false (.t 0), none⟩,
 ⟨some 7, none, .chk (.t 6), none⟩,
 ⟨some 8, none, .fld 0 (.t 7), none⟩,
 ⟨some 9, none, .ld none (.t 8), none⟩,
 ⟨some 10, none, .len false (.t 9), none⟩,
 ⟨some 11, none, .bin .gtr .i64 (.t 10) (.c (.int .i64 0)), none⟩,
 ⟨some 12, none, .mv false (.t 11), none⟩,
 ⟨some 13, some (12, true), .mv false (.t 0), none⟩,
 ⟨some 14, some (12, true), .chk (.t 13), none⟩,
 ⟨some 15, some (12, true), .fld 0 (.t 14), none⟩,
 ⟨some 16, some (12, true), .ld none (.t 15), none⟩,
 ⟨some 17, some (12, true), .ixs 4 (.t 16) (.c (.int .i64 0)), none⟩,
 ⟨some 18, some (12, true), .fld 1 (.t 17), none⟩,
 ⟨some 19, some (12, true), .ld none (.t 18), none⟩,
 ⟨some 20, some (12, true), .mv false (.t 0), none⟩,
 ⟨some 21, some (12, true), .chk (.t 20), none⟩,
 ⟨some 22, some (12, true), .fld 0 (.t 21), none⟩,
 ⟨some 23, some (12, true), .ld none (.t 22), none⟩,
 ⟨some 24, some (12, true), .ixs 4 (.t 23) (.c (.int .i64 0)), none⟩,
 ⟨some 25, some (12, true), .fld 3 (.t 24), none⟩,
 ⟨some 26, some (12, true), .ld none (.t 25), none⟩,
 ⟨some 27, some (12, true), .bin .add .i64 (.t 19) (.t 26), none⟩,
 ⟨some 28, some (12, true), .mv false (.t 1), none⟩,
 ⟨some 29, some (12, true), .bin .leq .i64 (.t 27) (.t 28), none⟩,
 ⟨some 30, none, .pick (.t 12) (.t 29) (.c (.bool false)), none⟩] (some [0, 1, 30])) (
 .ite (.t 30) (
 .skip) (
 .exit 0))) (
 .blk 1 (
 .reg false [
 ⟨some 31, none, .mv false (.t 0), none⟩,
 ⟨some 32, none, .mv false (.t 0), none⟩,
 ⟨some 33, none, .chk (.t 32), none⟩,
 ⟨some 34, none, .fld 0 (.t 33), none⟩,
 ⟨some 35, none, .ld none (.t 34), none⟩,
 ⟨some 36, none, .sls false 4 (.t 35) (some (.c (.int .i64 1))) none, none⟩,
 ⟨some 37, none, .chk (.t 31), none⟩,
 ⟨some 38, none, .fld 0 (.t 37), none⟩,
 ⟨none, none, .st none (.t 38) (.t 36), none⟩] (some [0, 1])))))) (
.seq (.reg false [
 ⟨some 5, none, .mv false (.c (.int .i64 0)), none⟩] (some [0, 1, 5])) (
.seq (.blk 2 (
 .loop (
 .seq (.seq (.reg false [
 ⟨some 39, none, .mv false (.t 5), none⟩,
 ⟨some 40, none, .mv false (.t 0), none⟩,
 ⟨some 41, none, .chk (.t 40), none⟩,
 ⟨some 42, none, .fld 0 (.t 41), none⟩,
 ⟨some 43, none, .ld none (.t 42), none⟩,
 ⟨some 44, none, .len false (.t 43), none⟩,
 ⟨some 45, none, .bin .lss .i64 (.t 39) (.t 44), none⟩,
 ⟨some 46, none, .mv false (.t 45), none⟩,
 ⟨some 47, some (46, true), .mv false (.t 0), none⟩,
 ⟨some 48, some (46, true), .chk (.t 47), none⟩,
 ⟨some 49, some (46, true), .fld 0 (.t 48), none⟩,
 ⟨some 50, some (46, true), .ld none (.t 49), none⟩,
 ⟨some 51, some (46, true), .mv false (.t 5), none⟩,
 ⟨some 52, some (46, true), .ixs 4 (.t 50) (.t 51), none⟩,
 ⟨some 53, some (46, true), .fld 1 (.t 52), none⟩,
 ⟨some 54, some (46, true), .ld none (.t 53), none⟩,
 ⟨some 55, some (46, true), .mv false (.t 1), none⟩,
 ⟨some 56, some (46, true), .bin .leq .i64 (.t 54) (.t 55), none⟩,
 ⟨some 57, none, .pick (.t 46) (.t 56) (.c (.bool false)), none⟩] (some [0, 1, 5, 57])) (
 .ite (.t 57) (
 .skip) (
 .exit 2))) (
 .blk 3 (
 .reg false [
 ⟨some 58, none, .mv false (.t 5), none⟩,
 ⟨some 59, none, .bin .add .i64 (.t 58) (.c (.int .i64 1)), none⟩,
 ⟨some 5, none, .mv false (.t 59), none⟩] (some [0, 1, 5])))))) (
.seq (.reg false [
 ⟨some 60, none, .mv false (.t 0), none⟩,
 ⟨some 61, none, .chk (.t 60), none⟩,
 ⟨some 62, none, .fld 0 (.t 61), none⟩,
 ⟨some 63, none, .ld none (.t 62), none⟩,
 ⟨some 64, none, .mv false (.t 5), none⟩,
 ⟨some 65, none, .sls false 4 (.t 63) none (some (.t 64)), none⟩,
 ⟨some 4, none, .mv false (.t 65), none⟩] (some [4])) (
.ret)))))
set_option maxRecDepth 1000000 in
theorem comp_region_walk_row : (Tryz.f133.body.bind fun code => kD Tryz.prog Tryz.f133.ntmps code c_region_walk_row) = some c_region_walk_row.bare := by kernel_rfl
def qu : List R := [.t 4]
theorem spm_region_walk_row {ds : List D} {d : D} {bx bx' : List Ent} (hn : Nat.ble ds.length 66 = true) (h : run TSpC gtab (jZ bx) c_region_walk_row (retG qu (fun d1 bx1 => Rt (jZ bx) bx1 d1 d bx')) ⟨env0 0 ds, bx⟩) : TSpM 133 ds bx d bx' := qS kI c_region_walk_row qu (fn := Tryz.f133) (by kernel_rfl) (by kernel_rfl) comp_region_walk_row (by kernel_rfl) hn h
def c_region_rule_join_2 : C := .seq (.reg false [
 ⟨some 1, none, .box true (.t 0), none⟩,
 ⟨some 2, none, .mv false (.c (.int .i64 0)), none⟩,
 ⟨some 3, none, .mv false (.c (.int .i64 0)), none⟩] (some [1])) (
.seq (.reg true [
 ⟨some 4, none, .fld 0 (.t 1), none⟩,
 ⟨some 5, none, .ld none (.t 4), none⟩,
 ⟨some 6, none, .fld 2 (.t 1), none⟩,
 ⟨some 7, none, .ld none (.t 6), none⟩,
 ⟨some 2, none, .mv false (.t 5), none⟩,
 ⟨some 3, none, .mv false (.t 7), none⟩] (some [2, 3])) (
.ret))
set_option maxRecDepth 1000000 in
theorem yf : (Tryz.f134.body.bind fun code => kD Tryz.prog Tryz.f134.ntmps code c_region_rule_join_2) = some c_region_rule_join_2.bare := by kernel_rfl
def zD : List R := [.t 2, .t 3]
theorem yj {ds : List D} {d : D} (hn : Nat.ble ds.length 8 = true) (h : run TSpC gtab 0 c_region_rule_join_2 (retK zD (· = d)) ⟨env0 0 ds, []⟩) : TSp 134 ds d := k9 kI c_region_rule_join_2 zD (fn := Tryz.f134) (by kernel_rfl) (by kernel_rfl) yf (by kernel_rfl) hn h
def c_region_across : C := .seq (.reg false [
 ⟨some 4, none, .mv false (.c (.bool false)), none⟩] (some [0, 1])) (
.seq (.blk 0 (
 .loop (
 .seq (.seq (.reg true [
 ⟨some 5, none, .mv false (.t 0), none⟩,
 ⟨some 6, none, .chk (.t 5), none⟩,
 ⟨some 7, none, .ld none (.t 6), none⟩,
 ⟨some 8, none, .len false (.t 7), none⟩,
 ⟨some 9, none, .bin .gtr .i64 (.t 8) (.c (.int .i64 0)), none⟩,
 ⟨some 10, none, .mv false (.t 9), none⟩,
 ⟨some 11, some (10, true), .mv false (.t 0), none⟩,
 ⟨some 12, some (10, true), .chk (.t 11), none⟩,
 ⟨some 13, some (10, true), .ld none (.t 12), none⟩,
 ⟨some 14, some (10, true), .ixs 4 (.t 13) (.c (.int .i64 0)), none⟩,
 ⟨some 15, some (10, true), .fld 0 (.t 14), none⟩,
 ⟨some 16, some (10, true), .ld none (.t 15), none⟩,
 ⟨some 17, some (10, true), .mv false (.t 0), none⟩,
 ⟨some 18, some (10, true), .chk (.t 17), none⟩,
 ⟨some 19, some (10, true), .ld none (.t 18), none⟩,
 ⟨some 20, some (10, true), .ixs 4 (.t 19) (.c (.int .i64 0)), none⟩,
 ⟨some 21, some (10, true), .fld 2 (.t 20), none⟩,
 ⟨some 22, some (10, true), .ld none (.t 21), none⟩,
 ⟨some 23, some (10, true), .bin .add .i64 (.t 16) (.t 22), none⟩,
 ⟨some 24, some (10, true), .mv false (.t 1), none⟩,
 ⟨some 25, some (10, true), .bin .leq .i64 (.t 23) (.t 24), none⟩,
 ⟨some 26, none, .pick (.t 10) (.t 25) (.c (.bool false)), none⟩] (some [0, 1, 26])) (
 .ite (.t 26) (
 .skip) (
 .exit 0))) (
 .blk 1 (
 .reg false [
 ⟨some 27, none, .mv false (.t 0), none⟩,
 ⟨some 28, none, .mv false (.t 0), none⟩,
 ⟨some 29, none, .chk (.t 28), none⟩,
 ⟨some 30, none, .ld none (.t 29), none⟩,
 ⟨some 31, none, .sls false 4 (.t 30) (some (.c (.int .i64 1))) none, none⟩,
 ⟨some 32, none, .chk (.t 27), none⟩,
 ⟨none, none, .st none (.t 32) (.t 31), none⟩] (some [0, 1])))))) (
.seq (.reg false [
 ⟨some 33, none, .mv false (.t 0), none⟩,
 ⟨some 34, none, .chk (.t 33), none⟩,
 ⟨some 35, none, .ld none (.t 34), none⟩,
 ⟨some 36, none, .len false (.t 35), none⟩,
 ⟨some 37, none, .bin .gtr .i64 (.t 36) (.c (.int .i64 0)), none⟩,
 ⟨some 38, none, .mv false (.t 37), none⟩,
 ⟨some 39, some (38, true), .mv false (.t 0), none⟩,
 ⟨some 40, some (38, true), .chk (.t 39), none⟩,
 ⟨some 41, some (38, true), .ld none (.t 40), none⟩,
 ⟨some 42, some (38, true), .ixs 4 (.t 41) (.c (.int .i64 0)), none⟩,
 ⟨some 43, some (38, true), .fld 0 (.t 42), none⟩,
 ⟨some 44, some (38, true), .ld none (.t 43), none⟩,
 ⟨some 45, some (38, true), .mv false (.t 1), none⟩,
 ⟨some 46, some (38, true), .bin .leq .i64 (.t 44) (.t 45), none⟩,
 ⟨some 47, none, .pick (.t 38) (.t 46) (.c (.bool false)), none⟩,
 ⟨some 4, none, .mv false (.t 47), none⟩] (some [4])) (
.ret)))
set_option maxRecDepth 1000000 in
theorem comp_region_across : (Tryz.f135.body.bind fun code => kD Tryz.prog Tryz.f135.ntmps code c_region_across) = some c_region_across.bare := by kernel_rfl
def qO : List R := [.t 4]
theorem spm_region_across {ds : List D} {d : D} {bx bx' : List Ent} (hn : Nat.ble ds.length 48 = true) (h : run TSpC gtab (jZ bx) c_region_across (retG qO (fun d1 bx1 => Rt (jZ bx) bx1 d1 d bx')) ⟨env0 0 ds, bx⟩) : TSpM 135 ds bx d bx' := qS kI c_region_across qO (fn := Tryz.f135) (by kernel_rfl) (by kernel_rfl) comp_region_across (by kernel_rfl) hn h
def c_blit_counts : C := .seq (.reg false [
 ⟨some 1, none, .box true (.t 0), none⟩,
 ⟨some 2, none, .mv false (.c (.bool false)), none⟩] (some [1])) (
.seq (.reg false [
 ⟨some 3, none, .fld 2 (.t 1), none⟩,
 ⟨some 4, none, .ld none (.t 3), none⟩,
 ⟨some 5, none, .bin .gtr .i64 (.t 4) (.c (.int .i64 0)), none⟩,
 ⟨some 6, none, .mv false (.t 5), none⟩,
 ⟨some 7, some (6, true), .fld 3 (.t 1), none⟩,
 ⟨some 8, some (6, true), .ld none (.t 7), none⟩,
 ⟨some 9, some (6, true), .bin .gtr .i64 (.t 8) (.c (.int .i64 0)), none⟩,
 ⟨some 10, none, .pick (.t 6) (.t 9) (.c (.bool false)), none⟩,
 ⟨some 11, none, .mv false (.t 10), none⟩,
 ⟨some 12, some (11, true), .fld 0 (.t 1), none⟩,
 ⟨some 13, some (11, true), .ld none (.t 12), none⟩,
 ⟨some 14, some (11, true), .call false 179 [.t 13], none⟩,
 ⟨some 15, none, .pick (.t 11) (.t 14) (.c (.bool false)), none⟩,
 ⟨some 16, none, .mv false (.t 15), none⟩,
 ⟨some 17, some (16, true), .fld 1 (.t 1), none⟩,
 ⟨some 18, some (16, true), .ld none (.t 17), none⟩,
 ⟨some 19, some (16, true), .call false 179 [.t 18], none⟩,
 ⟨some 20, none, .pick (.t 16) (.t 19) (.c (.bool false)), none⟩,
 ⟨some 21, none, .mv false (.t 20), none⟩,
 ⟨some 22, some (21, true), .fld 2 (.t 1), none⟩,
 ⟨some 23, some (21, true), .ld none (.t 22), none⟩,
 ⟨some 24, some (21, true), .fld 0 (.t 1), none⟩,
 ⟨some 25, some (21, true), .ld none (.t 24), none⟩,
 ⟨some 26, some (21, true), .bin .sub .i64 (.c (.int .i64 1048576)) (.t 25), none⟩,
 ⟨some 27, some (21, true), .bin .leq .i64 (.t 23) (.t 26), none⟩,
 ⟨some 28, none, .pick (.t 21) (.t 27) (.c (.bool false)), none⟩,
 ⟨some 29, none, .mv false (.t 28), none⟩,
 ⟨some 30, some (29, true), .fld 3 (.t 1), none⟩,
 ⟨some 31, some (29, true), .ld none (.t 30), none⟩,
 ⟨some 32, some (29, true), .fld 1 (.t 1), none⟩,
 ⟨some 33, some (29, true), .ld none (.t 32), none⟩,
 ⟨some 34, some (29, true), .bin .sub .i64 (.c (.int .i64 1048576)) (.t 33), none⟩,
 ⟨some 35, some (29, true), .bin .leq .i64 (.t 31) (.t 34), none⟩,
 ⟨some 36, none, .pick (.t 29) (.t 35) (.c (.bool false)), none⟩,
 ⟨some 2, none, .mv false (.t 36), none⟩] (some [2])) (
.ret))
set_option maxRecDepth 1000000 in
theorem comp_blit_counts : (Tryz.f136.body.bind fun code => kD Tryz.prog Tryz.f136.ntmps code c_blit_counts) = some c_blit_counts.bare := by kernel_rfl
def zQ : List R := [.t 2]
theorem spo_blit_counts {ds : List D} {d : D} (hn : Nat.ble ds.length 37 = true) (h : run TSpC gtab 0 c_blit_counts (retK zQ (· = d)) ⟨env0 0 ds, []⟩) : TSp 136 ds d := k9 kI c_blit_counts zQ (fn := Tryz.f136) (by kernel_rfl) (by kernel_rfl) comp_blit_counts (by kernel_rfl) hn h
def c_blit_Area_1 : C := .seq (.reg false [
 ⟨some 8, none, .mv false (.c (.int .u8 0)), none⟩] (some [0, 1, 2, 3, 4, 5])) (
.seq (.reg false [
 ⟨some 9, none, .ld none (.t 2), none⟩,
 ⟨some 10, none, .mv false (.t 0), none⟩,
 ⟨some 11, none, .ld none (.t 3), none⟩,
 ⟨some 12, none, .bin .sub .i64 (.t 10) (.t 11), none⟩,
 ⟨some 13, none, .fld 0 (.t 4), none⟩,
 ⟨some 14, none, .ld none (.t 13), none⟩,
 ⟨some 15, none, .bin .add .i64 (.t 12) (.t 14), none⟩,
 ⟨some 16, none, .mv false (.t 1), none⟩,
 ⟨some 17, none, .ld none (.t 5), none⟩,
 ⟨some 18, none, .bin .sub .i64 (.t 16) (.t 17), none⟩,
 ⟨some 19, none, .fld 1 (.t 4), none⟩,
 ⟨some 20, none, .ld none (.t 19), none⟩,
 ⟨some 21, none, .bin .add .i64 (.t 18) (.t 20), none⟩,
 ⟨some 22, none, .call false 88 [(.t 9), (.t 15), (.t 21)], none⟩,
 ⟨some 8, none, .mv false (.t 22), none⟩] (some [8])) (
.ret))
set_option maxRecDepth 1000000 in
theorem comp_blit_Area_1 : (Tryz.f137.body.bind fun code => kD Tryz.prog Tryz.f137.ntmps code c_blit_Area_1) = some c_blit_Area_1.bare := by kernel_rfl
def vV : List R := [.t 8]
theorem spm_blit_Area_1 {ds : List D} {d : D} {bx bx' : List Ent} (hn : Nat.ble ds.length 23 = true) (h : run TSpC gtab (jZ bx) c_blit_Area_1 (retG vV (fun d1 bx1 => Rt (jZ bx) bx1 d1 d bx')) ⟨env0 0 ds, bx⟩) : TSpM 137 ds bx d bx' := qS kI c_blit_Area_1 vV (fn := Tryz.f137) (by kernel_rfl) (by kernel_rfl) comp_blit_Area_1 (by kernel_rfl) hn h
def c_slices_Clone_api_Rect_api_Rect : C := .seq (.reg false [
 ⟨some 2, none, .nilS 45 4, none⟩] (some [0])) (
.seq (.seq (.reg false [
 ⟨some 3, none, .mv false (.t 0), none⟩,
 ⟨some 4, none, .prm true false (.eqn false 40) [.t 3], none⟩] (some [0, 4])) (
.ite (.t 4) (
 .seq (.reg false [
 ⟨some 2, none, .nilS 45 4, none⟩] (some [2])) (
 .ret)) (
 .skip))) (
.seq (.reg false [
 ⟨some 5, none, .bsl (some false) 45 4 (some 4) [], none⟩,
 ⟨some 6, none, .mv false (.t 0), none⟩,
 ⟨some 7, none, .app 45 4 32 (.t 5) (.t 6), none⟩,
 ⟨some 2, none, .mv false (.t 7), none⟩] (some [2])) (
.ret)))
set_option maxRecDepth 1000000 in
theorem qV : (Tryz.f138.body.bind fun code => kD Tryz.prog Tryz.f138.ntmps code c_slices_Clone_api_Rect_api_Rect) = some c_slices_Clone_api_Rect_api_Rect.bare := by kernel_rfl
def kG : List R := [.t 2]
theorem z6 {ds : List D} {d : D} (hn : Nat.ble ds.length 8 = true) (h : run TSpC gtab 0 c_slices_Clone_api_Rect_api_Rect (retK kG (· = d)) ⟨env0 0 ds, []⟩) : TSp 138 ds d := k9 kI c_slices_Clone_api_Rect_api_Rect kG (fn := Tryz.f138) (by kernel_rfl) (by kernel_rfl) qV (by kernel_rfl) hn h
theorem z7 {ds : List D} {d : D} {bx bx' : List Ent} (hn : Nat.ble ds.length 8 = true) (h : run TSpC gtab (jZ bx) c_slices_Clone_api_Rect_api_Rect (retG kG (fun d1 bx1 => Rt (jZ bx) bx1 d1 d bx')) ⟨env0 0 ds, bx⟩) : TSpM 138 ds bx d bx' := qS kI c_slices_Clone_api_Rect_api_Rect kG (fn := Tryz.f138) (by kernel_rfl) (by kernel_rfl) qV (by kernel_rfl) hn h
def c_pen_isFunc : C := .seq (.reg false [
 ⟨some 2, none, .mv false (.c (.bool false)), none⟩] (some [0])) (
.seq (.reg false [
 ⟨some 3, none, .mv false (.t 0), none⟩,
 ⟨some 4, none, .bin .geq .i64 (.t 3) (.c (.int .i64 0)), none⟩,
 ⟨some 5, none, .mv false (.t 4), none⟩,
 ⟨some 6, some (5, true), .mv false (.t 0), none⟩,
 ⟨some 7, some (5, true), .bin .leq .i64 (.t 6) (.c (.int .i64 15)), none⟩,
 ⟨some 8, none, .pick (.t 5) (.t 7) (.c (.bool false)), none⟩,
 ⟨some 2, none, .mv false (.t 8), none⟩] (some [2])) (
.ret))
set_option maxRecDepth 1000000 in
theorem comp_pen_isFunc : (Tryz.f139.body.bind fun code => kD Tryz.prog Tryz.f139.ntmps code c_pen_isFunc) = some c_pen_isFunc.bare := by kernel_rfl
def yn : List R := [.t 2]
theorem spo_pen_isFunc {ds : List D} {d : D} (hn : Nat.ble ds.length 9 = true) (h : run TSpC gtab 0 c_pen_isFunc (retK yn (· = d)) ⟨env0 0 ds, []⟩) : TSp 139 ds d := k9 kI c_pen_isFunc yn (fn := Tryz.f139) (by kernel_rfl) (by kernel_rfl) comp_pen_isFunc (by kernel_rfl) hn h
def c_pen_isPlace : C := .seq (.reg false [
 ⟨some 2, none, .mv false (.c (.bool false)), none⟩] (some [0])) (
.seq (.reg false [
 ⟨some 3, none, .mv false (.t 0), none⟩,
 ⟨some 4, none, .bin .geq .i64 (.t 3) (.c (.int .i64 (-32768))), none⟩,
 ⟨some 5, none, .mv false (.t 4), none⟩,
 ⟨some 6, some (5, true), .mv false (.t 0), none⟩,
 ⟨some 7, some (5, true), .bin .leq .i64 (.t 6) (.c (.int .i64 32767)), none⟩,
 ⟨some 8, none, .pick (.t 5) (.t 7) (.c (.bool false)), none⟩,
 ⟨some 2, none, .mv false (.t 8), none⟩] (some [2])) (
.ret))
set_option maxRecDepth 1000000 in
theorem comp_pen_isPlace : (Tryz.f140.body.bind fun code => kD Tryz.prog Tryz.f140.ntmps code c_pen_isPlace) = some c_pen_isPlace.bare := by kernel_rfl
def xQ : List R := [.t 2]
theorem spo_pen_isPlace {ds : List D} {d : D} (hn : Nat.ble ds.length 9 = true) (h : run TSpC gtab 0 c_pen_isPlace (retK xQ (· = d)) ⟨env0 0 ds, []⟩) : TSp 140 ds d := k9 kI c_pen_isPlace xQ (fn := Tryz.f140) (by kernel_rfl) (by kernel_rfl) comp_pen_isPlace (by kernel_rfl) hn h
def c_plane_Plane_Set : C := .reg true [
 ⟨some 8, none, .mv false (.t 0), none⟩,
 ⟨some 9, none, .chk (.t 8), none⟩,
 ⟨some 10, none, .fld 3 (.t 9), none⟩,
 ⟨some 11, none, .ld none (.t 10), none⟩,
 ⟨some 12, none, .mv false (.t 2), none⟩,
 ⟨some 13, none, .mv false (.t 0), none⟩,
 ⟨some 14, none, .chk (.t 13), none⟩,
 ⟨some 15, none, .fld 0 (.t 14), none⟩,
 ⟨some 16, none, .ld none (.t 15), none⟩,
 ⟨some 17, none, .bin .mul .i64 (.t 12) (.t 16), none⟩,
 ⟨some 18, none, .mv false (.t 1), none⟩,
 ⟨some 19, none, .bin .add .i64 (.t 17) (.t 18), none⟩,
 ⟨some 20, none, .mv false (.t 3), none⟩,
 ⟨some 21, none, .ixs 1 (.t 11) (.t 19), none⟩,
 ⟨none, none, .st none (.t 21) (.t 20), none⟩] (some [])
set_option maxRecDepth 1000000 in
theorem comp_plane_Plane_Set : (Tryz.f142.body.bind fun code => kD Tryz.prog Tryz.f142.ntmps code c_plane_Plane_Set) = some c_plane_Plane_Set.bare := by kernel_rfl
def zw : List R := []
theorem spm_plane_Plane_Set {ds : List D} {d : D} {bx bx' : List Ent} (hn : Nat.ble ds.length 22 = true) (h : run TSpC gtab (jZ bx) c_plane_Plane_Set (retG zw (fun d1 bx1 => Rt (jZ bx) bx1 d1 d bx')) ⟨env0 0 ds, bx⟩) : TSpM 142 ds bx d bx' := qS kI c_plane_Plane_Set zw (fn := Tryz.f142) (by kernel_rfl) (by kernel_rfl) comp_plane_Plane_Set (by kernel_rfl) hn h
def c_rop_Mix : C := .seq (.reg false [
 ⟨some 8, none, .mv false (.c (.int .u8 0)), none⟩] (some [0, 1, 2, 3])) (
.seq (.reg false [
 ⟨some 13, none, .mv false (.t 0), none⟩,
 ⟨some 14, none, .call true 180 [.t 13], none⟩,
 ⟨some 9, none, .mv false (.t 14), none⟩] (some [1, 2, 3, 9])) (
.seq (.reg false [
 ⟨some 15, none, .mv false (.t 2), none⟩,
 ⟨some 16, none, .mv false (.t 3), none⟩,
 ⟨some 17, none, .bin .andNot .u8 (.t 15) (.t 16), none⟩,
 ⟨some 10, none, .mv false (.t 17), none⟩] (some [1, 2, 3, 9, 10])) (
.seq (.seq (.reg false [
 ⟨some 18, none, .mv false (.c (.int .i64 0)), none⟩] (some [1, 2, 3, 9, 10, 18])) (
.blk 0 (
 .loop (
 .seq (.reg false [
 ⟨some 19, none, .bin .lss .i64 (.t 18) (.c (.int .i64 8)), none⟩] (some [1, 2, 3, 9, 10, 18, 19])) (
 .seq (.ite (.t 19) (
 .skip) (
 .exit 0)) (
 .seq (.blk 1 (
 .seq (.reg false [
 ⟨some 20, none, .mv false (.t 18), none⟩,
 ⟨some 11, none, .mv false (.t 20), none⟩] (some [1, 2, 3, 9, 10, 11, 18])) (
 .seq (.reg false [
 ⟨some 21, none, .mv false (.t 11), none⟩,
 ⟨some 22, none, .bin .shl .u8 (.c (.int .u8 1)) (.t 21), none⟩,
 ⟨some 12, none, .mv false (.t 22), none⟩] (some [1, 2, 3, 9, 10, 12, 18])) (
 .seq (.reg false [
 ⟨some 23, none, .mv false (.t 3), none⟩,
 ⟨some 24, none, .mv false (.t 12), none⟩,
 ⟨some 25, none, .bin .and .u8 (.t 23) (.t 24), none⟩,
 ⟨some 26, none, .bin .neq .u8 (.t 25) (.c (.int .u8 0)), none⟩,
 ⟨some 27, none, .mv false (.t 26), none⟩,
 ⟨some 28, some (27, true), .mv false (.t 9), none⟩,
 ⟨some 29, some (27, true), .mv false (.t 1), none⟩,
 ⟨some 30, some (27, true), .mv false (.t 12), none⟩,
 ⟨some 31, some (27, true), .bin .and .u8 (.t 29) (.t 30), none⟩,
 ⟨some 32, some (27, true), .bin .neq .u8 (.t 31) (.c (.int .u8 0)), none⟩,
 ⟨some 33, some (27, true), .mv false (.t 2), none⟩,
 ⟨some 34, some (27, true), .mv false (.t 12), none⟩,
 ⟨some 35, some (27, true), .bin .and .u8 (.t 33) (.t 34), none⟩,
 ⟨some 36, some (27, true), .bin .neq .u8 (.t 35) (.c (.int .u8 0)), none⟩,
 ⟨some 37, some (27, true), .callv false (.t 28) [(.t 32), (.t 36)], none⟩,
 ⟨some 38, none, .pick (.t 27) (.t 37) (.c (.bool false)), none⟩] (some [1, 2, 3, 9, 10, 12, 18, 38])) (
 .ite (.t 38) (
 .reg false [
 ⟨some 39, none, .mv false (.t 10), none⟩,
 ⟨some 40, none, .mv false (.t 12), none⟩,
 ⟨some 41, none, .bin .or .u8 (.t 39) (.t 40), none⟩,
 ⟨some 10, none, .mv false (.t 41), none⟩] (some [1, 2, 3, 9, 10, 18])) (
 .skip)))))) (
 .reg false [
 ⟨some 42, none, .bin .add .i64 (.t 18) (.c (.int .i64 1)), none⟩,
 ⟨some 18, none, .mv false (.t 42), none⟩] (some [1, 2, 3, 9, 10, 18])))))))) (
.seq (.reg false [
 ⟨some 43, none, .mv false (.t 10), none⟩,
 ⟨some 8, none, .mv false (.t 43), none⟩] (some [8])) (
.ret)))))
set_option maxRecDepth 1000000 in
theorem comp_rop_Mix : (Tryz.f143.body.bind fun code => kD Tryz.prog Tryz.f143.ntmps code c_rop_Mix) = some c_rop_Mix.bare := by kernel_rfl
def xx : List R := [.t 8]
theorem spo_rop_Mix {ds : List D} {d : D} (hn : Nat.ble ds.length 44 = true) (h : run TSpC gtab 0 c_rop_Mix (retK xx (· = d)) ⟨env0 0 ds, []⟩) : TSp 143 ds d := k9 kI c_rop_Mix xx (fn := Tryz.f143) (by kernel_rfl) (by kernel_rfl) comp_rop_Mix (by kernel_rfl) hn h
def c_plane_Plane_changed : C := .seq (.reg false [
 ⟨some 2, none, .nilF 40 1, none⟩] (some [0])) (
.seq (.reg false [
 ⟨some 8, none, .prm false true (.mkd 240) [(.c (.int .i64 256)), (.c (.int .i64 256))], none⟩,
 ⟨some 3, none, .mv false (.t 8), none⟩] (some [0, 3])) (
.seq (.seq (.reg false [
 ⟨some 9, none, .mv false (.t 0), none⟩,
 ⟨some 10, none, .chk (.t 9), none⟩,
 ⟨some 11, none, .fld 1 (.t 10), none⟩,
 ⟨some 12, none, .ld none (.t 11), none⟩,
 ⟨some 13, none, .mv false (.c (.int .i64 0)), none⟩] (some [0, 3, 12, 13])) (
.blk 0 (
 .loop (
 .seq (.reg false [
 ⟨some 14, none, .bin .lss .i64 (.t 13) (.t 12), none⟩] (some [0, 3, 12, 13, 14])) (
 .seq (.ite (.t 14) (
 .skip) (
 .exit 0)) (
 .seq (.blk 1 (
 .seq (.reg false [
 ⟨some 15, none, .mv false (.t 13), none⟩,
 ⟨some 4, none, .mv false (.t 15), none⟩] (some [0, 3, 4, 12, 13])) (
 .seq (.reg false [
 ⟨some 5, none, .mv false (.c (.int .i64 0)), none⟩] (some [0, 3, 4, 5, 12, 13])) (
 .blk 2 (
 .loop (
 .seq (.seq (.reg false [
 ⟨some 16, none, .mv false (.t 5), none⟩,
 ⟨some 17, none, .mv false (.t 0), none⟩,
 ⟨some 18, none, .chk (.t 17), none⟩,
 ⟨some 19, none, .fld 0 (.t 18), none⟩,
 ⟨some 20, none, .ld none (.t 19), none⟩,
 ⟨some 21, none, .bin .lss .i64 (.t 16) (.t 20), none⟩] (some [0, 3, 4, 5, 12, 13, 21])) (
 .ite (.t 21) (
 .skip) (
 .exit 2))) (
 .blk 3 (
 .seq (.reg false [
 ⟨some 22, none, .mv false (.t 0), none⟩,
 ⟨some 23, none, .mv false (.t 5), none⟩,
 ⟨some 24, none, .mv false (.t 4), none⟩,
 ⟨some 25, none, .call false 181 [(.t 22), (.t 23), (.t 24)], none⟩,
 ⟨some 26, none, .mv false (.t 5), none⟩,
 ⟨some 6, none, .mv false (.t 25), none⟩,
 ⟨some 7, none, .mv false (.t 26), none⟩] (some [0, 3, 4, 5, 6, 7, 12, 13])) (
 .seq (.blk 4 (
 .loop (
 .seq (.seq (.reg false [
 ⟨some 27, none, .mv false (.t 5), none⟩,
 ⟨some 28, none, .mv false (.t 0), none⟩,
 ⟨some 29, none, .chk (.t 28), none⟩,
 ⟨some 30, none, .fld 0 (.t 29), none⟩,
 ⟨some 31, none, .ld none (.t 30), none⟩,
 ⟨some 32, none, .bin .lss .i64 (.t 27) (.t 31), none⟩,
 ⟨some 33, none, .mv false (.t 32), none⟩,
 ⟨some 34, some (33, true), .mv false (.t 0), none⟩,
 ⟨some 35, some (33, true), .mv false (.t 5), none⟩,
 ⟨some 36, some (33, true), .mv false (.t 4), none⟩,
 ⟨some 37, some (33, true), .call false 181 [(.t 34), (.t 35), (.t 36)], none⟩,
 ⟨some 38, some (33, true), .mv false (.t 6), none⟩,
 ⟨some 39, some (33, true), .bin .eql .u8 (.t 37) (.t 38), none⟩,
 ⟨some 40, none, .pick (.t 33) (.t 39) (.c (.bool false)), none⟩,
 ⟨some 41, none, .mv false (.t 40), none⟩,
 ⟨some 42, some (41, true), .mv false (.t 0), none⟩,
 ⟨some 43, some (41, true), .mv false (.t 5), none⟩,
 ⟨some 44, some (41, true), .mv false (.t 4), none⟩,
 ⟨some 45, some (41, true), .call false 88 [(.t 42), (.t 43), (.t 44)], none⟩,
 ⟨some 46, some (41, true), .mv false (.t 6), none⟩,
 ⟨some 47, some (41, true), .bin .neq .u8 (.t 45) (.t 46), none⟩,
 ⟨some 48, none, .pick (.t 41) (.t 47) (.c (.bool false)), none⟩] (some [0, 3, 4, 5, 6, 7, 12, 13, 48])) (
 .ite (.t 48) (
 .skip) (
 .exit 4))) (
 .blk 5 (
 .reg false [
 ⟨some 49, none, .mv false (.t 5), none⟩,
 ⟨some 50, none, .bin .add .i64 (.t 49) (.c (.int .i64 1)), none⟩,
 ⟨some 5, none, .mv false (.t 50), none⟩] (some [0, 3, 4, 5, 6, 7, 12, 13])))))) (
 .seq (.seq (.reg false [
 ⟨some 51, none, .mv false (.t 5), none⟩,
 ⟨some 52, none, .mv false (.t 7), none⟩,
 ⟨some 53, none, .bin .eql .i64 (.t 51) (.t 52), none⟩] (some [0, 3, 4, 5, 6, 7, 12, 13, 53])) (
 .ite (.t 53) (
 .seq (.reg false [
 ⟨some 54, none, .mv false (.t 5), none⟩,
 ⟨some 55, none, .bin .add .i64 (.t 54) (.c (.int .i64 1)), none⟩,
 ⟨some 5, none, .mv false (.t 55), none⟩] (some [0, 3, 4, 5, 12, 13])) (
 .exit 3)) (
 .skip))) (
 .reg false [
 ⟨some 56, none, .mv false (.t 3), none⟩,
 ⟨some 57, none, .mv false (.t 6), none⟩,
 ⟨some 58, none, .mv false (.t 3), none⟩,
 ⟨some 59, none, .mv false (.t 6), none⟩,
 ⟨some 60, none, .ixs 1 (.t 58) (.t 59), none⟩,
 ⟨some 61, none, .ld none (.t 60), none⟩,
 ⟨some 62, none, .mv false (.t 7), none⟩,
 ⟨some 63, none, .mv false (.t 4), none⟩,
 ⟨some 64, none, .mv false (.t 5), none⟩,
 ⟨some 65, none, .mv false (.t 7), none⟩,
 ⟨some 66, none, .bin .sub .i64 (.t 64) (.t 65), none⟩,
 ⟨some 67, none, .bld [(.int .i64 0), (.int .i64 0), (.int .i64 0), (.int .i64 0)] [(0, none, (.t 62)), (1, none, (.t 63)), (2, none, (.t 66)), (3, none, (.c (.int .i64 1)))], none⟩,
 ⟨some 68, none, .bsl none 45 4 (some 4) [.t 67], none⟩,
 ⟨some 69, none, .app 45 4 32 (.t 61) (.t 68), none⟩,
 ⟨some 70, none, .ixs 1 (.t 56) (.t 57), none⟩,
 ⟨none, none, .st none (.t 70) (.t 69), none⟩] (some [0, 3, 4, 5, 12, 13])))))))))))) (
 .reg false [
 ⟨some 71, none, .bin .add .i64 (.t 13) (.c (.int .i64 1)), none⟩,
 ⟨some 13, none, .mv false (.t 71), none⟩] (some [0, 3, 12, 13])))))))) (
.seq (.reg false [
 ⟨some 72, none, .mv false (.t 3), none⟩,
 ⟨some 2, none, .mv false (.t 72), none⟩] (some [2])) (
.ret))))
set_option maxRecDepth 1000000 in
theorem xW : (Tryz.f144.body.bind fun code => kD Tryz.prog Tryz.f144.ntmps code c_plane_Plane_changed) = some c_plane_Plane_changed.bare := by kernel_rfl
def kH : List R := [.t 2]
theorem x5 {ds : List D} {d : D} {bx bx' : List Ent} (hn : Nat.ble ds.length 73 = true) (h : run TSpC gtab (jZ bx) c_plane_Plane_changed (retG kH (fun d1 bx1 => Rt (jZ bx) bx1 d1 d bx')) ⟨env0 0 ds, bx⟩) : TSpM 144 ds bx d bx' := qS kI c_plane_Plane_changed kH (fn := Tryz.f144) (by kernel_rfl) (by kernel_rfl) xW (by kernel_rfl) hn h
def c_grid_Grid_Fill_1 : C := .seq (.reg false [
 ⟨some 9, none, .mv false (.t 1), none⟩,
 ⟨some 8, none, .mv false (.t 9), none⟩] (some [0, 2, 3, 4, 8])) (
.blk 0 (
 .loop (
 .seq (.seq (.reg false [
 ⟨some 10, none, .mv false (.t 8), none⟩,
 ⟨some 11, none, .mv false (.t 2), none⟩,
 ⟨some 12, none, .bin .lss .i64 (.t 10) (.t 11), none⟩] (some [0, 2, 3, 4, 8, 12])) (
 .ite (.t 12) (
 .skip) (
 .exit 0))) (
 .seq (.blk 1 (
 .reg false [
 ⟨some 15, none, .fld 2 (.t 4), none⟩,
 ⟨some 16, none, .ld none (.t 15), none⟩,
 ⟨some 17, none, .mv false (.t 0), none⟩,
 ⟨some 18, none, .fld 0 (.t 4), none⟩,
 ⟨some 19, none, .ld none (.t 18), none⟩,
 ⟨some 20, none, .bin .mul .i64 (.t 17) (.t 19), none⟩,
 ⟨some 21, none, .mv false (.t 8), none⟩,
 ⟨some 22, none, .bin .add .i64 (.t 20) (.t 21), none⟩,
 ⟨some 23, none, .ld none (.t 3), none⟩,
 ⟨some 24, none, .ixs 1 (.t 16) (.t 22), none⟩,
 ⟨none, none, .st none (.t 24) (.t 23), none⟩] (some [0, 2, 3, 4, 8]))) (
 .reg false [
 ⟨some 13, none, .mv false (.t 8), none⟩,
 ⟨some 14, none, .bin .add .i64 (.t 13) (.c (.int .i64 1)), none⟩,
 ⟨some 8, none, .mv false (.t 14), none⟩] (some [0, 2, 3, 4, 8]))))))
set_option maxRecDepth 1000000 in
theorem comp_grid_Grid_Fill_1 : (Tryz.f163.body.bind fun code => kD Tryz.prog Tryz.f163.ntmps code c_grid_Grid_Fill_1) = some c_grid_Grid_Fill_1.bare := by kernel_rfl
def qY : List R := []
theorem spm_grid_Grid_Fill_1 {ds : List D} {d : D} {bx bx' : List Ent} (hn : Nat.ble ds.length 25 = true) (h : run TSpC gtab (jZ bx) c_grid_Grid_Fill_1 (retG qY (fun d1 bx1 => Rt (jZ bx) bx1 d1 d bx')) ⟨env0 0 ds, bx⟩) : TSpM 163 ds bx d bx' := qS kI c_grid_Grid_Fill_1 qY (fn := Tryz.f163) (by kernel_rfl) (by kernel_rfl) comp_grid_Grid_Fill_1 (by kernel_rfl) hn h
def c_blit_coord : C := .seq (.reg false [
 ⟨some 2, none, .mv false (.c (.bool false)), none⟩] (some [0])) (
.seq (.reg false [
 ⟨some 3, none, .mv false (.t 0), none⟩,
 ⟨some 4, none, .bin .geq .i64 (.t 3) (.c (.int .i64 (-1048576))), none⟩,
 ⟨some 5, none, .mv false (.t 4), none⟩,
 ⟨some 6, some (5, true), .mv false (.t 0), none⟩,
 ⟨some 7, some (5, true), .bin .leq .i64 (.t 6) (.c (.int .i64 1048576)), none⟩,
 ⟨some 8, none, .pick (.t 5) (.t 7) (.c (.bool false)), none⟩,
 ⟨some 2, none, .mv false (.t 8), none⟩] (some [2])) (
.ret))
set_option maxRecDepth 1000000 in
theorem comp_blit_coord : (Tryz.f179.body.bind fun code => kD Tryz.prog Tryz.f179.ntmps code c_blit_coord) = some c_blit_coord.bare := by kernel_rfl
def yp : List R := [.t 2]
theorem spo_blit_coord {ds : List D} {d : D} (hn : Nat.ble ds.length 9 = true) (h : run TSpC gtab 0 c_blit_coord (retK yp (· = d)) ⟨env0 0 ds, []⟩) : TSp 179 ds d := k9 kI c_blit_coord yp (fn := Tryz.f179) (by kernel_rfl) (by kernel_rfl) comp_blit_coord (by kernel_rfl) hn h
def c_rop_function : C := .seq (.reg false [
 ⟨some 1, none, .box false (.t 0), none⟩,
 ⟨some 2, none, .mv false (.c .nil), none⟩] (some [1])) (
.seq (.seq (.reg false [
 ⟨some 3, none, .ld none (.t 1), none⟩,
 ⟨some 4, none, .call false 208 [.t 3], none⟩,
 ⟨some 5, none, .not (.t 4), none⟩] (some [1, 5])) (
.ite (.t 5) (
 .seq (.reg false [
 ⟨some 2, none, .mv false (.c (.fn 209 [])), none⟩] (some [2])) (
 .ret)) (
 .skip))) (
.seq (.reg false [
 ⟨some 6, none, .clo 210 [.t 1], none⟩,
 ⟨some 2, none, .mv false (.t 6), none⟩] (some [2])) (
.ret)))
set_option maxRecDepth 1000000 in
theorem comp_rop_function : (Tryz.f180.body.bind fun code => kD Tryz.prog Tryz.f180.ntmps code c_rop_function) = some c_rop_function.bare := by kernel_rfl
def vv : List R := [.t 2]
theorem spm_rop_function {ds : List D} {d : D} {bx bx' : List Ent} (hn : Nat.ble ds.length 7 = true) (h : run TSpC gtab (jZ bx) c_rop_function (retG vv (fun d1 bx1 => Rt (jZ bx) bx1 d1 d bx')) ⟨env0 0 ds, bx⟩) : TSpM 180 ds bx d bx' := qS kI c_rop_function vv (fn := Tryz.f180) (by kernel_rfl) (by kernel_rfl) comp_rop_function (by kernel_rfl) hn h
def c_plane_Plane_Now : C := .seq (.reg false [
 ⟨some 6, none, .mv false (.c (.int .u8 0)), none⟩] (some [0, 1, 2])) (
.seq (.reg true [
 ⟨some 7, none, .mv false (.t 0), none⟩,
 ⟨some 8, none, .chk (.t 7), none⟩,
 ⟨some 9, none, .fld 3 (.t 8), none⟩,
 ⟨some 10, none, .ld none (.t 9), none⟩,
 ⟨some 11, none, .mv false (.t 2), none⟩,
 ⟨some 12, none, .mv false (.t 0), none⟩,
 ⟨some 13, none, .chk (.t 12), none⟩,
 ⟨some 14, none, .fld 0 (.t 13), none⟩,
 ⟨some 15, none, .ld none (.t 14), none⟩,
 ⟨some 16, none, .bin .mul .i64 (.t 11) (.t 15), none⟩,
 ⟨some 17, none, .mv false (.t 1), none⟩,
 ⟨some 18, none, .bin .add .i64 (.t 16) (.t 17), none⟩,
 ⟨some 19, none, .ixs 1 (.t 10) (.t 18), none⟩,
 ⟨some 20, none, .ld none (.t 19), none⟩,
 ⟨some 6, none, .mv false (.t 20), none⟩] (some [6])) (
.ret))
set_option maxRecDepth 1000000 in
theorem comp_plane_Plane_Now : (Tryz.f181.body.bind fun code => kD Tryz.prog Tryz.f181.ntmps code c_plane_Plane_Now) = some c_plane_Plane_Now.bare := by kernel_rfl
def zx : List R := [.t 6]
theorem spm_plane_Plane_Now {ds : List D} {d : D} {bx bx' : List Ent} (hn : Nat.ble ds.length 21 = true) (h : run TSpC gtab (jZ bx) c_plane_Plane_Now (retG zx (fun d1 bx1 => Rt (jZ bx) bx1 d1 d bx')) ⟨env0 0 ds, bx⟩) : TSpM 181 ds bx d bx' := qS kI c_plane_Plane_Now zx (fn := Tryz.f181) (by kernel_rfl) (by kernel_rfl) comp_plane_Plane_Now (by kernel_rfl) hn h
def c_rop_known : C := .seq (.reg false [
 ⟨some 2, none, .mv false (.c (.bool false)), none⟩] (some [0])) (
.seq (.reg false [
 ⟨some 3, none, .mv false (.t 0), none⟩,
 ⟨some 4, none, .bin .geq .i64 (.t 3) (.c (.int .i64 0)), none⟩,
 ⟨some 5, none, .mv false (.t 4), none⟩,
 ⟨some 6, some (5, true), .mv false (.t 0), none⟩,
 ⟨some 7, some (5, true), .bin .leq .i64 (.t 6) (.c (.int .i64 15)), none⟩,
 ⟨some 8, none, .pick (.t 5) (.t 7) (.c (.bool false)), none⟩,
 ⟨some 2, none, .mv false (.t 8), none⟩] (some [2])) (
.ret))
set_option maxRecDepth 1000000 in
theorem comp_rop_known : (Tryz.f208.body.bind fun code => kD Tryz.prog Tryz.f208.ntmps code c_rop_known) = some c_rop_known.bare := by kernel_rfl
def r_rop_known : List R := [.t 2]
theorem spo_rop_known {ds : List D} {d : D} (hn : Nat.ble ds.length 9 = true) (h : run TSpC gtab 0 c_rop_known (retK r_rop_known (· = d)) ⟨env0 0 ds, []⟩) : TSp 208 ds d := k9 kI c_rop_known r_rop_known (fn := Tryz.f208) (by kernel_rfl) (by kernel_rfl) comp_rop_known (by kernel_rfl) hn h
def c_rop_function_2 : C := .seq (.reg false [
 ⟨some 5, none, .mv false (.c (.bool false)), none⟩] (some [0, 1, 2])) (
.seq (.reg true [
 ⟨some 6, none, .ld none (.t 2), none⟩,
 ⟨some 7, none, .mv false (.t 0), none⟩,
 ⟨some 8, none, .mv false (.t 1), none⟩,
 ⟨some 9, none, .call false 211 [(.t 7), (.t 8)], none⟩,
 ⟨some 10, none, .bin .and .i64 (.t 6) (.t 9), none⟩,
 ⟨some 11, none, .bin .neq .i64 (.t 10) (.c (.int .i64 0)), none⟩,
 ⟨some 5, none, .mv false (.t 11), none⟩] (some [5])) (
.ret))
set_option maxRecDepth 1000000 in
theorem comp_rop_function_2 : (Tryz.f210.body.bind fun code => kD Tryz.prog Tryz.f210.ntmps code c_rop_function_2) = some c_rop_function_2.bare := by kernel_rfl
def zJ : List R := [.t 5]
theorem spm_rop_function_2 {ds : List D} {d : D} {bx bx' : List Ent} (hn : Nat.ble ds.length 12 = true) (h : run TSpC gtab (jZ bx) c_rop_function_2 (retG zJ (fun d1 bx1 => Rt (jZ bx) bx1 d1 d bx')) ⟨env0 0 ds, bx⟩) : TSpM 210 ds bx d bx' := qS kI c_rop_function_2 zJ (fn := Tryz.f210) (by kernel_rfl) (by kernel_rfl) comp_rop_function_2 (by kernel_rfl) hn h
def c_rop_weight : C := .seq (.reg false [
 ⟨some 4, none, .mv false (.c (.int .i64 0)), none⟩] (some [0, 1])) (
.seq (.blk 0 (
 .seq (.reg false [
 ⟨some 6, none, .mv false (.t 0), none⟩,
 ⟨some 7, none, .mv false (.t 6), none⟩,
 ⟨some 8, some (7, true), .mv false (.t 1), none⟩,
 ⟨some 9, none, .pick (.t 7) (.t 8) (.c (.bool false)), none⟩,
 ⟨some 5, none, .mv false (.t 9), none⟩] (some [0, 1, 5])) (
 .ite (.t 5) (
 .seq (.reg false [
 ⟨some 4, none, .mv false (.c (.int .i64 1)), none⟩] (some [4])) (
 .ret)) (
 .seq (.reg false [
 ⟨some 11, none, .mv false (.t 0), none⟩,
 ⟨some 10, none, .mv false (.t 11), none⟩] (some [1, 10])) (
 .ite (.t 10) (
 .seq (.reg false [
 ⟨some 4, none, .mv false (.c (.int .i64 2)), none⟩] (some [4])) (
 .ret)) (
 .seq (.reg false [
 ⟨some 13, none, .mv false (.t 1), none⟩,
 ⟨some 12, none, .mv false (.t 13), none⟩] (some [12])) (
 .ite (.t 12) (
 .seq (.reg false [
 ⟨some 4, none, .mv false (.c (.int .i64 4)), none⟩] (some [4])) (
 .ret)) (
 .skip)))))))) (
.seq (.reg false [
 ⟨some 4, none, .mv false (.c (.int .i64 8)), none⟩] (some [4])) (
.ret)))
set_option maxRecDepth 1000000 in
theorem comp_rop_weight : (Tryz.f211.body.bind fun code => kD Tryz.prog Tryz.f211.ntmps code c_rop_weight) = some c_rop_weight.bare := by kernel_rfl
def ym : List R := [.t 4]
theorem spo_rop_weight {ds : List D} {d : D} (hn : Nat.ble ds.length 14 = true) (h : run TSpC gtab 0 c_rop_weight (retK ym (· = d)) ⟨env0 0 ds, []⟩) : TSp 211 ds d := k9 kI c_rop_weight ym (fn := Tryz.f211) (by kernel_rfl) (by kernel_rfl) comp_rop_weight (by kernel_rfl) hn h
end Go.AM

