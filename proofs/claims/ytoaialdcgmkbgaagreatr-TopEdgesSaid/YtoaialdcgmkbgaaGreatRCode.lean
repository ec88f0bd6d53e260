import Derived.Test.YtoaialdcgmkbgaaGreatRA21
import Derived.Test.YtoaialdcgmkbgaaGreatRProg

set_option linter.all false
namespace Go.AM
open Go Go.Proofs
theorem kM : Tryz.prog.follows .mixedOrders = true := by kernel_rfl
def gtab : Nat → Option (List D) := fun _ => none
abbrev TSp := Sp Tryz.prog gtab
abbrev TSpM := SpM Tryz.prog gtab
abbrev TSpC := SpC Tryz.prog gtab
def c_grid_Grid_Size : C := .seq (.reg false [
 ⟨some 1, none, .box true (.t 0), none⟩,
 ⟨some 2, none, .mv false (.c (.int .i64 0)), none⟩,
 ⟨some 3, none, .mv false (.c (.int .i64 0)), none⟩] (some [1])) (
.seq (.reg true [
 ⟨some 4, none, .fld 0 (.t 1), none⟩,
 ⟨some 5, none, .ld none (.t 4), none⟩,
 ⟨some 6, none, .fld 1 (.t 1), none⟩,
 ⟨some 7, none, .ld none (.t 6), none⟩,
 ⟨some 2, none, .mv false (.t 5), none⟩,
 ⟨some 3, none, .mv false (.t 7), none⟩] (some [2, 3])) (
.ret))
set_option maxRecDepth 1000000 in
theorem Kg : (Tryz.f10.body.bind fun code => kF Tryz.prog Tryz.f10.ntmps code c_grid_Grid_Size) = some c_grid_Grid_Size.bare := by kernel_rfl
def vT : List R := [.t 2, .t 3]
theorem Kq {ds : List D} {d : D} (hn : Nat.ble ds.length 8 = true) (h : run TSpC gtab 0 c_grid_Grid_Size (retK vT (· = d)) ⟨env0 0 ds, []⟩) : TSp 10 ds d := qn kM c_grid_Grid_Size vT (fn := Tryz.f10) (by kernel_rfl) (by kernel_rfl) Kg (by kernel_rfl) hn h
def c_band_Of : C := .seq (.reg false [
 ⟨some 2, none, .alloc [(.ls 4 [])], none⟩] (some [0, 2])) (
.seq (.reg false [
 ⟨some 3, none, .nilS 45 4, none⟩] (some [0, 2, 3])) (
.seq (.seq (.reg false [
 ⟨some 18, none, .mv false (.t 0), none⟩,
 ⟨some 19, none, .len false (.t 18), none⟩,
 ⟨some 20, none, .mv false (.c (.int .i64 0)), none⟩] (some [2, 3, 18, 19, 20])) (
.blk 0 (
 .loop (
 .seq (.reg false [
 ⟨some 21, none, .bin .lss .i64 (.t 20) (.t 19), none⟩] (some [2, 3, 18, 19, 20, 21])) (
 .seq (.ite (.t 21) (
 .skip) (
 .exit 0)) (
 .seq (.blk 1 (
 .seq (.reg false [
 ⟨some 22, none, .ixs 4 (.t 18) (.t 20), none⟩,
 ⟨some 23, none, .ld (some 4) (.t 22), none⟩,
 ⟨some 5, none, .alloc [(.int .i64 0), (.int .i64 0), (.int .i64 0), (.int .i64 0)], none⟩,
 ⟨none, none, .st (some 4) (.t 5) (.t 23), none⟩] (some [2, 3, 5, 18, 19, 20])) (
 .seq (.reg false [
 ⟨some 24, none, .ld (some 4) (.t 5), none⟩,
 ⟨some 25, none, .call false 58 [.t 24], none⟩] (some [2, 3, 5, 18, 19, 20, 25])) (
 .ite (.t 25) (
 .reg false [
 ⟨some 26, none, .mv false (.t 3), none⟩,
 ⟨some 27, none, .ld (some 4) (.t 5), none⟩,
 ⟨some 28, none, .bsl none 45 4 (some 4) [.t 27], none⟩,
 ⟨some 29, none, .app 45 4 32 (.t 26) (.t 28), none⟩,
 ⟨some 3, none, .mv false (.t 29), none⟩] (some [2, 3, 18, 19, 20])) (
 .skip))))) (
 .reg false [
 ⟨some 30, none, .bin .add .i64 (.t 20) (.c (.int .i64 1)), none⟩,
 ⟨some 20, none, .mv false (.t 30), none⟩] (some [2, 3, 18, 19, 20])))))))) (
.seq (.reg false [
 ⟨some 31, none, .mv false (.t 3), none⟩,
 ⟨some 32, none, .call true 59 [(.t 31), (.c (.fn 60 []))], none⟩] (some [2, 3])) (
.seq (.reg false [
 ⟨some 33, none, .mv false (.t 3), none⟩,
 ⟨some 34, none, .call false 63 [.t 33], none⟩,
 ⟨some 6, none, .mv false (.t 34), none⟩] (some [2, 3, 6])) (
.seq (.reg false [
 ⟨some 7, none, .alloc [(.bsl 45 0 4 0)], none⟩,
 ⟨some 8, none, .nilS 45 4, none⟩] (some [2, 3, 6, 7, 8])) (
.seq (.reg false [
 ⟨some 9, none, .mv false (.c (.int .i64 0)), none⟩] (some [2, 3, 6, 7, 8, 9])) (
.seq (.reg false [
 ⟨some 10, none, .mv false (.c (.int .i64 0)), none⟩] (some [2, 3, 6, 7, 8, 9, 10])) (
.seq (.seq (.reg false [
 ⟨some 11, none, .mv false (.c (.int .i64 0)), none⟩] (some [2, 3, 6, 7, 8, 9, 10, 11])) (
.blk 2 (
 .loop (
 .seq (.seq (.reg false [
 ⟨some 35, none, .mv false (.t 11), none⟩,
 ⟨some 36, none, .bin .add .i64 (.t 35) (.c (.int .i64 1)), none⟩,
 ⟨some 37, none, .mv false (.t 6), none⟩,
 ⟨some 38, none, .len false (.t 37), none⟩,
 ⟨some 39, none, .bin .lss .i64 (.t 36) (.t 38), none⟩] (some [2, 3, 6, 7, 8, 9, 10, 11, 39])) (
 .ite (.t 39) (
 .skip) (
 .exit 2))) (
 .seq (.blk 3 (
 .seq (.reg true [
 ⟨some 42, none, .mv false (.t 6), none⟩,
 ⟨some 43, none, .mv false (.t 11), none⟩,
 ⟨some 44, none, .ixs 1 (.t 42) (.t 43), some []⟩,
 ⟨some 45, none, .ld none (.t 44), some []⟩,
 ⟨some 46, none, .mv false (.t 6), none⟩,
 ⟨some 47, none, .mv false (.t 11), none⟩,
 ⟨some 48, none, .bin .add .i64 (.t 47) (.c (.int .i64 1)), none⟩,
 ⟨some 49, none, .ixs 1 (.t 46) (.t 48), some []⟩,
 ⟨some 50, none, .ld none (.t 49), some []⟩,
 ⟨some 12, none, .alloc [(.int .i64 0)], some [5, 6]⟩,
 ⟨some 13, none, .alloc [(.int .i64 0)], some [5, 6]⟩,
 ⟨none, none, .st none (.t 12) (.t 45), some [5]⟩,
 ⟨none, none, .st none (.t 13) (.t 50), some [6]⟩] (some [2, 3, 6, 7, 8, 9, 10, 11, 12, 13])) (
 .seq (.reg false [
 ⟨some 51, none, .mv false (.t 8), none⟩,
 ⟨some 52, none, .clo 65 [.t 12], none⟩,
 ⟨some 53, none, .call true 64 [(.t 51), (.t 52)], none⟩,
 ⟨some 8, none, .mv false (.t 53), none⟩] (some [2, 3, 6, 7, 8, 9, 10, 11, 12, 13])) (
 .seq (.reg false [
 ⟨some 54, none, .mv false (.t 10), none⟩,
 ⟨some 14, none, .mv false (.t 54), none⟩] (some [2, 3, 6, 7, 8, 9, 10, 11, 12, 13, 14])) (
 .seq (.blk 4 (
 .loop (
 .seq (.seq (.reg true [
 ⟨some 55, none, .mv false (.t 10), none⟩,
 ⟨some 56, none, .mv false (.t 3), none⟩,
 ⟨some 57, none, .len false (.t 56), none⟩,
 ⟨some 58, none, .bin .lss .i64 (.t 55) (.t 57), none⟩,
 ⟨some 59, none, .mv false (.t 58), none⟩,
 ⟨some 60, some (59, true), .mv false (.t 3), none⟩,
 ⟨some 61, some (59, true), .mv false (.t 10), none⟩,
 ⟨some 62, some (59, true), .ixs 4 (.t 60) (.t 61), none⟩,
 ⟨some 63, some (59, true), .fld 1 (.t 62), none⟩,
 ⟨some 64, some (59, true), .ld none (.t 63), none⟩,
 ⟨some 65, some (59, true), .ld none (.t 12), none⟩,
 ⟨some 66, some (59, true), .bin .eql .i64 (.t 64) (.t 65), none⟩,
 ⟨some 67, none, .pick (.t 59) (.t 66) (.c (.bool false)), none⟩] (some [2, 3, 6, 7, 8, 9, 10, 11, 12, 13, 14, 67])) (
 .ite (.t 67) (
 .skip) (
 .exit 4))) (
 .blk 5 (
 .seq (.reg false [
 ⟨some 68, none, .mv false (.t 8), none⟩,
 ⟨some 69, none, .mv false (.t 3), none⟩,
 ⟨some 70, none, .mv false (.t 10), none⟩,
 ⟨some 71, none, .ixs 4 (.t 69) (.t 70), none⟩,
 ⟨some 72, none, .ld (some 4) (.t 71), none⟩,
 ⟨some 73, none, .bsl none 45 4 (some 4) [.t 72], none⟩,
 ⟨some 74, none, .app 45 4 32 (.t 68) (.t 73), none⟩,
 ⟨some 8, none, .mv false (.t 74), none⟩] (some [2, 3, 6, 7, 8, 9, 10, 11, 12, 13, 14])) (
 .reg false [
 ⟨some 75, none, .mv false (.t 10), none⟩,
 ⟨some 76, none, .bin .add .i64 (.t 75) (.c (.int .i64 1)), none⟩,
 ⟨some 10, none, .mv false (.t 76), none⟩] (some [2, 3, 6, 7, 8, 9, 10, 11, 12, 13, 14]))))))) (
 .seq (.seq (.reg false [
 ⟨some 77, none, .mv false (.t 10), none⟩,
 ⟨some 78, none, .mv false (.t 14), none⟩,
 ⟨some 79, none, .bin .gtr .i64 (.t 77) (.t 78), none⟩] (some [2, 3, 6, 7, 8, 9, 10, 11, 12, 13, 79])) (
 .ite (.t 79) (
 .reg false [
 ⟨some 80, none, .mv false (.t 8), none⟩,
 ⟨some 81, none, .call true 59 [(.t 80), (.c (.fn 66 []))], none⟩] (some [2, 3, 6, 7, 8, 9, 10, 11, 12, 13])) (
 .skip))) (
 .seq (.reg false [
 ⟨some 82, none, .ld none (.t 7), none⟩,
 ⟨some 83, none, .len false (.t 82), none⟩,
 ⟨some 15, none, .mv false (.t 83), none⟩] (some [2, 3, 6, 7, 8, 9, 10, 11, 12, 13, 15])) (
 .seq (.seq (.reg false [
 ⟨some 84, none, .mv false (.t 8), none⟩,
 ⟨some 85, none, .call true 67 [.t 84], none⟩] (some [2, 3, 6, 7, 8, 9, 10, 11, 12, 13, 15, 85])) (
 .blk 6 (
 .rangef (.t 85) [86] (
 .reg false [
 ⟨some 16, none, .alloc [(.int .i64 0), (.int .i64 0)], none⟩,
 ⟨none, none, .st (some 2) (.t 16) (.t 86), none⟩] (some [7, 12, 13, 16])) (
 .blk 7 (
 .reg false [
 ⟨some 87, none, .ld none (.t 7), none⟩,
 ⟨some 88, none, .fld 0 (.t 16), none⟩,
 ⟨some 89, none, .ld none (.t 88), none⟩,
 ⟨some 90, none, .ld none (.t 12), none⟩,
 ⟨some 91, none, .fld 1 (.t 16), none⟩,
 ⟨some 92, none, .ld none (.t 91), none⟩,
 ⟨some 93, none, .fld 0 (.t 16), none⟩,
 ⟨some 94, none, .ld none (.t 93), none⟩,
 ⟨some 95, none, .bin .sub .i64 (.t 92) (.t 94), none⟩,
 ⟨some 96, none, .ld none (.t 13), none⟩,
 ⟨some 97, none, .ld none (.t 12), none⟩,
 ⟨some 98, none, .bin .sub .i64 (.t 96) (.t 97), none⟩,
 ⟨some 99, none, .bld [(.int .i64 0), (.int .i64 0), (.int .i64 0), (.int .i64 0)] [(0, none, (.t 89)), (1, none, (.t 90)), (2, none, (.t 95)), (3, none, (.t 98))], none⟩,
 ⟨some 100, none, .bsl none 45 4 (some 4) [.t 99], none⟩,
 ⟨some 101, none, .app 45 4 32 (.t 87) (.t 100), none⟩,
 ⟨none, none, .st none (.t 7) (.t 101), none⟩] (some [])))))) (
 .seq (.reg true [
 ⟨some 102, none, .ld none (.t 7), none⟩,
 ⟨some 103, none, .mv false (.t 9), none⟩,
 ⟨some 104, none, .mv false (.t 15), none⟩,
 ⟨some 105, none, .prm false false (.sub 40 true true) [(.t 102), (.t 103), (.t 104)], none⟩,
 ⟨some 106, none, .ld none (.t 7), none⟩,
 ⟨some 107, none, .mv false (.t 15), none⟩,
 ⟨some 108, none, .prm false false (.sub 40 true false) [(.t 106), (.t 107)], none⟩,
 ⟨some 109, none, .call false 68 [(.t 105), (.t 108)], none⟩] (some [2, 3, 6, 7, 8, 9, 10, 11, 12, 13, 15, 109])) (
 .ite (.t 109) (
 .seq (.seq (.reg false [
 ⟨some 110, none, .mv false (.t 9), none⟩,
 ⟨some 17, none, .mv false (.t 110), none⟩] (some [2, 3, 6, 7, 8, 9, 10, 11, 12, 13, 15, 17])) (
 .blk 8 (
 .loop (
 .seq (.seq (.reg false [
 ⟨some 111, none, .mv false (.t 17), none⟩,
 ⟨some 112, none, .mv false (.t 15), none⟩,
 ⟨some 113, none, .bin .lss .i64 (.t 111) (.t 112), none⟩] (some [2, 3, 6, 7, 8, 9, 10, 11, 12, 13, 15, 17, 113])) (
 .ite (.t 113) (
 .skip) (
 .exit 8))) (
 .seq (.blk 9 (
 .reg true [
 ⟨some 116, none, .ld none (.t 7), none⟩,
 ⟨some 117, none, .mv false (.t 17), none⟩,
 ⟨some 118, none, .ixs 4 (.t 116) (.t 117), none⟩,
 ⟨some 119, none, .fld 3 (.t 118), none⟩,
 ⟨some 120, none, .ld none (.t 119), none⟩,
 ⟨some 121, none, .ld none (.t 13), none⟩,
 ⟨some 122, none, .ld none (.t 12), none⟩,
 ⟨some 123, none, .bin .sub .i64 (.t 121) (.t 122), none⟩,
 ⟨some 124, none, .bin .add .i64 (.t 120) (.t 123), none⟩,
 ⟨some 125, none, .ixs 4 (.t 116) (.t 117), none⟩,
 ⟨some 126, none, .fld 3 (.t 125), none⟩,
 ⟨none, none, .st none (.t 126) (.t 124), none⟩] (some [2, 3, 6, 7, 8, 9, 10, 11, 12, 13, 15, 17]))) (
 .reg false [
 ⟨some 114, none, .mv false (.t 17), none⟩,
 ⟨some 115, none, .bin .add .i64 (.t 114) (.c (.int .i64 1)), none⟩,
 ⟨some 17, none, .mv false (.t 115), none⟩] (some [2, 3, 6, 7, 8, 9, 10, 11, 12, 13, 15, 17]))))))) (
 .reg false [
 ⟨some 127, none, .ld none (.t 7), none⟩,
 ⟨some 128, none, .mv false (.t 15), none⟩,
 ⟨some 129, none, .prm false true (.trc 40) [(.t 127), (.t 128)], none⟩,
 ⟨none, none, .st none (.t 7) (.t 129), none⟩] (some [2, 3, 6, 7, 8, 9, 10, 11]))) (
 .reg false [
 ⟨some 130, none, .mv false (.t 15), none⟩,
 ⟨some 9, none, .mv false (.t 130), none⟩] (some [2, 3, 6, 7, 8, 9, 10, 11])))))))))))) (
 .reg false [
 ⟨some 40, none, .mv false (.t 11), none⟩,
 ⟨some 41, none, .bin .add .i64 (.t 40) (.c (.int .i64 1)), none⟩,
 ⟨some 11, none, .mv false (.t 41), none⟩] (some [2, 3, 6, 7, 8, 9, 10, 11]))))))) (
.seq (.reg false [
 ⟨some 131, none, .ld none (.t 7), none⟩,
 ⟨some 132, none, .call true 69 [.t 131], none⟩,
 ⟨some 133, none, .bld [(.ls 4 [])] [(0, none, (.t 132))], none⟩,
 ⟨none, none, .st (some 1) (.t 2) (.t 133), none⟩] (some [2])) (
.ret))))))))))
set_option maxRecDepth 1000000 in
theorem ja0 : (Tryz.f11.body.bind fun code => kF Tryz.prog Tryz.f11.ntmps code c_band_Of) = some c_band_Of.bare := by kernel_rfl
def kQ : List R := [.cell 2 (some 1)]
theorem spo_band_Of {ds : List D} {d : D} (hn : Nat.ble ds.length 134 = true) (h : run TSpC gtab 0 c_band_Of (retK kQ (· = d)) ⟨env0 0 ds, []⟩) : TSp 11 ds d := qn kM c_band_Of kQ (fn := Tryz.f11) (by kernel_rfl) (by kernel_rfl) ja0 (by kernel_rfl) hn h
def c_region_Meet : C := .seq (.reg false [
 ⟨some 2, none, .box true (.t 0), none⟩,
 ⟨some 3, none, .box true (.t 1), none⟩,
 ⟨some 4, none, .alloc [(.ls 4 [])], none⟩] (some [2, 3, 4])) (
.seq (.reg false [
 ⟨some 5, none, .bld [.nil] [(0, none, (.c (.fn 70 [])))], none⟩,
 ⟨some 6, none, .ld (some 1) (.t 2), none⟩,
 ⟨some 7, none, .ld (some 1) (.t 3), none⟩,
 ⟨some 8, none, .call false 71 [(.t 5), (.t 6), (.t 7)], none⟩,
 ⟨none, none, .st (some 1) (.t 4) (.t 8), none⟩] (some [4])) (
.ret))
set_option maxRecDepth 1000000 in
theorem Zd : (Tryz.f13.body.bind fun code => kF Tryz.prog Tryz.f13.ntmps code c_region_Meet) = some c_region_Meet.bare := by kernel_rfl
def v6 : List R := [.cell 4 (some 1)]
theorem ZH {ds : List D} {d : D} (hn : Nat.ble ds.length 9 = true) (h : run TSpC gtab 0 c_region_Meet (retK v6 (· = d)) ⟨env0 0 ds, []⟩) : TSp 13 ds d := qn kM c_region_Meet v6 (fn := Tryz.f13) (by kernel_rfl) (by kernel_rfl) Zd (by kernel_rfl) hn h
def c_pen_New : C := .seq (.reg false [
 ⟨some 0, none, .alloc [(.int .i64 0), (.int .u8 0), (.int .u8 0), (.int .u8 0), (.int .u32 0), (.int .i64 0), (.int .i64 0), (.bool false), (.ls 4 [])], none⟩] (some [0])) (
.seq (.reg false [
 ⟨some 1, none, .bld [(.int .i64 0), (.int .u8 0), (.int .u8 0), (.int .u8 0), (.int .u32 0), (.int .i64 0), (.int .i64 0), (.bool false), (.ls 4 [])] [(0, none, (.c (.int .i64 3))), (1, none, (.c (.int .u8 255))), (3, none, (.c (.int .u8 1)))], none⟩,
 ⟨none, none, .st (some 9) (.t 0) (.t 1), none⟩] (some [0])) (
.ret))
set_option maxRecDepth 1000000 in
theorem Y9 : (Tryz.f16.body.bind fun code => kF Tryz.prog Tryz.f16.ntmps code c_pen_New) = some c_pen_New.bare := by kernel_rfl
def Q2 : List R := [.cell 0 (some 9)]
theorem spo_pen_New {ds : List D} {d : D} (hn : Nat.ble ds.length 2 = true) (h : run TSpC gtab 0 c_pen_New (retK Q2 (· = d)) ⟨env0 0 ds, []⟩) : TSp 16 ds d := qn kM c_pen_New Q2 (fn := Tryz.f16) (by kernel_rfl) (by kernel_rfl) Y9 (by kernel_rfl) hn h
def c_region_Within : C := .seq (.reg false [
 ⟨some 2, none, .box true (.t 0), none⟩,
 ⟨some 3, none, .box true (.t 1), none⟩,
 ⟨some 4, none, .alloc [(.ls 4 [])], none⟩] (some [2, 3, 4])) (
.seq (.reg true [
 ⟨some 5, none, .ld (some 1) (.t 2), none⟩,
 ⟨some 6, none, .ld (some 4) (.t 3), none⟩,
 ⟨some 7, none, .bsl none 45 4 (some 4) [.t 6], none⟩,
 ⟨some 8, none, .call false 11 [.t 7], none⟩,
 ⟨some 9, none, .call false 13 [(.t 5), (.t 8)], none⟩,
 ⟨none, none, .st (some 1) (.t 4) (.t 9), none⟩] (some [4])) (
.ret))
set_option maxRecDepth 1000000 in
theorem KG : (Tryz.f19.body.bind fun code => kF Tryz.prog Tryz.f19.ntmps code c_region_Within) = some c_region_Within.bare := by kernel_rfl
def zz : List R := [.cell 4 (some 1)]
theorem KU {ds : List D} {d : D} (hn : Nat.ble ds.length 10 = true) (h : run TSpC gtab 0 c_region_Within (retK zz (· = d)) ⟨env0 0 ds, []⟩) : TSp 19 ds d := qn kM c_region_Within zz (fn := Tryz.f19) (by kernel_rfl) (by kernel_rfl) KG (by kernel_rfl) hn h
def c_grid_Same : C := .seq (.reg false [
 ⟨some 2, none, .box true (.t 0), none⟩,
 ⟨some 3, none, .box true (.t 1), none⟩,
 ⟨some 4, none, .mv false (.c (.bool false)), none⟩] (some [2, 3])) (
.seq (.seq (.reg false [
 ⟨some 7, none, .fld 0 (.t 2), none⟩,
 ⟨some 8, none, .ld none (.t 7), none⟩,
 ⟨some 9, none, .fld 0 (.t 3), none⟩,
 ⟨some 10, none, .ld none (.t 9), none⟩,
 ⟨some 11, none, .bin .neq .i64 (.t 8) (.t 10), none⟩,
 ⟨some 12, none, .mv false (.t 11), none⟩,
 ⟨some 13, some (12, false), .fld 1 (.t 2), none⟩,
 ⟨some 14, some (12, false), .ld none (.t 13), none⟩,
 ⟨some 15, some (12, false), .fld 1 (.t 3), none⟩,
 ⟨some 16, some (12, false), .ld none (.t 15), none⟩,
 ⟨some 17, some (12, false), .bin .neq .i64 (.t 14) (.t 16), none⟩,
 ⟨some 18, none, .pick (.t 12) (.c (.bool true)) (.t 17), none⟩] (some [2, 3, 18])) (
.ite (.t 18) (
 .seq (.reg false [
 ⟨some 4, none, .mv false (.c (.bool false)), none⟩] (some [4])) (
 .ret)) (
 .skip))) (
.seq (.seq (.reg false [
 ⟨some 19, none, .fld 2 (.t 2), none⟩,
 ⟨some 20, none, .ld none (.t 19), none⟩,
 ⟨some 21, none, .len false (.t 20), none⟩,
 ⟨some 22, none, .mv false (.c (.int .i64 0)), none⟩] (some [3, 20, 21, 22])) (
.blk 0 (
 .loop (
 .seq (.reg false [
 ⟨some 23, none, .bin .lss .i64 (.t 22) (.t 21), none⟩] (some [3, 20, 21, 22, 23])) (
 .seq (.ite (.t 23) (
 .skip) (
 .exit 0)) (
 .seq (.blk 1 (
 .seq (.reg false [
 ⟨some 24, none, .mv false (.t 22), none⟩,
 ⟨some 25, none, .ixs 1 (.t 20) (.t 22), none⟩,
 ⟨some 26, none, .ld none (.t 25), none⟩,
 ⟨some 5, none, .mv false (.t 24), none⟩,
 ⟨some 6, none, .mv false (.t 26), none⟩] (some [3, 5, 6, 20, 21, 22])) (
 .seq (.reg false [
 ⟨some 27, none, .fld 2 (.t 3), none⟩,
 ⟨some 28, none, .ld none (.t 27), none⟩,
 ⟨some 29, none, .mv false (.t 5), none⟩,
 ⟨some 30, none, .ixs 1 (.t 28) (.t 29), none⟩,
 ⟨some 31, none, .ld none (.t 30), none⟩,
 ⟨some 32, none, .mv false (.t 6), none⟩,
 ⟨some 33, none, .bin .neq .u8 (.t 31) (.t 32), none⟩] (some [3, 20, 21, 22, 33])) (
 .ite (.t 33) (
 .seq (.reg false [
 ⟨some 4, none, .mv false (.c (.bool false)), none⟩] (some [4])) (
 .ret)) (
 .skip))))) (
 .reg false [
 ⟨some 34, none, .bin .add .i64 (.t 22) (.c (.int .i64 1)), none⟩,
 ⟨some 22, none, .mv false (.t 34), none⟩] (some [3, 20, 21, 22])))))))) (
.seq (.reg false [
 ⟨some 4, none, .mv false (.c (.bool true)), none⟩] (some [4])) (
.ret))))
set_option maxRecDepth 1000000 in
theorem Xe : (Tryz.f20.body.bind fun code => kF Tryz.prog Tryz.f20.ntmps code c_grid_Same) = some c_grid_Same.bare := by kernel_rfl
def qP : List R := [.t 4]
theorem Kj {ds : List D} {d : D} (hn : Nat.ble ds.length 35 = true) (h : run TSpC gtab 0 c_grid_Same (retK qP (· = d)) ⟨env0 0 ds, []⟩) : TSp 20 ds d := qn kM c_grid_Same qP (fn := Tryz.f20) (by kernel_rfl) (by kernel_rfl) Xe (by kernel_rfl) hn h
def c_band_Same : C := .seq (.reg false [
 ⟨some 2, none, .box true (.t 0), none⟩,
 ⟨some 3, none, .box true (.t 1), none⟩,
 ⟨some 4, none, .mv false (.c (.bool false)), none⟩] (some [2, 3])) (
.seq (.reg false [
 ⟨some 5, none, .fld 0 (.t 2), none⟩,
 ⟨some 6, none, .ld none (.t 5), none⟩,
 ⟨some 7, none, .fld 0 (.t 3), none⟩,
 ⟨some 8, none, .ld none (.t 7), none⟩,
 ⟨some 9, none, .call false 81 [(.t 6), (.t 8)], none⟩,
 ⟨some 4, none, .mv false (.t 9), none⟩] (some [4])) (
.ret))
set_option maxRecDepth 1000000 in
theorem Xg : (Tryz.f22.body.bind fun code => kF Tryz.prog Tryz.f22.ntmps code c_band_Same) = some c_band_Same.bare := by kernel_rfl
def xV : List R := [.t 4]
theorem Xv {ds : List D} {d : D} (hn : Nat.ble ds.length 10 = true) (h : run TSpC gtab 0 c_band_Same (retK xV (· = d)) ⟨env0 0 ds, []⟩) : TSp 22 ds d := qn kM c_band_Same xV (fn := Tryz.f22) (by kernel_rfl) (by kernel_rfl) Xg (by kernel_rfl) hn h
def c_grid_New : C := .seq (.reg false [
 ⟨some 6, none, .alloc [(.int .i64 0), (.int .i64 0), (.ls 1 [])], none⟩,
 ⟨some 7, none, .mv false (.c (.int .i64 0)), none⟩] (some [0, 1, 2, 6])) (
.seq (.seq (.reg false [
 ⟨some 10, none, .mv false (.t 0), none⟩,
 ⟨some 11, none, .call false 73 [.t 10], none⟩,
 ⟨some 12, none, .not (.t 11), none⟩,
 ⟨some 13, none, .mv false (.t 12), none⟩,
 ⟨some 14, some (13, false), .mv false (.t 1), none⟩,
 ⟨some 15, some (13, false), .call false 73 [.t 14], none⟩,
 ⟨some 16, some (13, false), .not (.t 15), none⟩,
 ⟨some 17, none, .pick (.t 13) (.c (.bool true)) (.t 16), none⟩] (some [0, 1, 2, 6, 17])) (
.ite (.t 17) (
 .seq (.reg false [
 ⟨some 18, none, .bld [(.int .i64 0), (.int .i64 0), (.ls 1 [])] [], none⟩,
 ⟨none, none, .st (some 3) (.t 6) (.t 18), none⟩,
 ⟨some 7, none, .mv false (.c (.int .i64 17)), none⟩] (some [6, 7])) (
 .ret)) (
 .skip))) (
.seq (.reg false [
 ⟨some 19, none, .mv false (.t 0), none⟩,
 ⟨some 20, none, .mv false (.t 1), none⟩,
 ⟨some 21, none, .bin .mul .i64 (.t 19) (.t 20), none⟩,
 ⟨some 22, none, .mks 51 1 none [(.int .u8 0)] (.t 21) (.t 21), none⟩,
 ⟨some 8, none, .mv false (.t 22), none⟩] (some [0, 1, 2, 6, 8])) (
.seq (.seq (.reg false [
 ⟨some 23, none, .mv false (.t 8), none⟩,
 ⟨some 24, none, .len false (.t 23), none⟩,
 ⟨some 25, none, .mv false (.c (.int .i64 0)), none⟩] (some [0, 1, 2, 6, 8, 24, 25])) (
.blk 0 (
 .loop (
 .seq (.reg false [
 ⟨some 26, none, .bin .lss .i64 (.t 25) (.t 24), none⟩] (some [0, 1, 2, 6, 8, 24, 25, 26])) (
 .seq (.ite (.t 26) (
 .skip) (
 .exit 0)) (
 .seq (.blk 1 (
 .seq (.reg false [
 ⟨some 27, none, .mv false (.t 25), none⟩,
 ⟨some 9, none, .mv false (.t 27), none⟩] (some [0, 1, 2, 6, 8, 9, 24, 25])) (
 .reg false [
 ⟨some 28, none, .mv false (.t 8), none⟩,
 ⟨some 29, none, .mv false (.t 9), none⟩,
 ⟨some 30, none, .mv false (.t 2), none⟩,
 ⟨some 31, none, .ixs 1 (.t 28) (.t 29), none⟩,
 ⟨none, none, .st none (.t 31) (.t 30), none⟩] (some [0, 1, 2, 6, 8, 24, 25])))) (
 .reg false [
 ⟨some 32, none, .bin .add .i64 (.t 25) (.c (.int .i64 1)), none⟩,
 ⟨some 25, none, .mv false (.t 32), none⟩] (some [0, 1, 2, 6, 8, 24, 25])))))))) (
.seq (.reg false [
 ⟨some 33, none, .mv false (.t 0), none⟩,
 ⟨some 34, none, .mv false (.t 1), none⟩,
 ⟨some 35, none, .mv false (.t 8), none⟩,
 ⟨some 36, none, .bld [(.int .i64 0), (.int .i64 0), (.ls 1 [])] [(0, none, (.t 33)), (1, none, (.t 34)), (2, none, (.t 35))], none⟩,
 ⟨none, none, .st (some 3) (.t 6) (.t 36), none⟩,
 ⟨some 7, none, .mv false (.c (.int .i64 0)), none⟩] (some [6, 7])) (
.ret)))))
set_option maxRecDepth 1000000 in
theorem XD : (Tryz.f27.body.bind fun code => kF Tryz.prog Tryz.f27.ntmps code c_grid_New) = some c_grid_New.bare := by kernel_rfl
def vt : List R := [.cell 6 (some 3), .t 7]
theorem Yu {ds : List D} {d : D} (hn : Nat.ble ds.length 37 = true) (h : run TSpC gtab 0 c_grid_New (retK vt (· = d)) ⟨env0 0 ds, []⟩) : TSp 27 ds d := qn kM c_grid_New vt (fn := Tryz.f27) (by kernel_rfl) (by kernel_rfl) XD (by kernel_rfl) hn h
def c_band_Region_Empty : C := .seq (.reg false [
 ⟨some 1, none, .box true (.t 0), none⟩,
 ⟨some 2, none, .mv false (.c (.bool false)), none⟩] (some [1])) (
.seq (.reg false [
 ⟨some 3, none, .fld 0 (.t 1), none⟩,
 ⟨some 4, none, .ld none (.t 3), none⟩,
 ⟨some 5, none, .len false (.t 4), none⟩,
 ⟨some 6, none, .bin .eql .i64 (.t 5) (.c (.int .i64 0)), none⟩,
 ⟨some 2, none, .mv false (.t 6), none⟩] (some [2])) (
.ret))
set_option maxRecDepth 1000000 in
theorem yS : (Tryz.f30.body.bind fun code => kF Tryz.prog Tryz.f30.ntmps code c_band_Region_Empty) = some c_band_Region_Empty.bare := by kernel_rfl
def zX : List R := [.t 2]
theorem yZ {ds : List D} {d : D} (hn : Nat.ble ds.length 7 = true) (h : run TSpC gtab 0 c_band_Region_Empty (retK zX (· = d)) ⟨env0 0 ds, []⟩) : TSp 30 ds d := qn kM c_band_Region_Empty zX (fn := Tryz.f30) (by kernel_rfl) (by kernel_rfl) yS (by kernel_rfl) hn h
def c_band_Region_Area : C := .seq (.reg false [
 ⟨some 1, none, .box true (.t 0), none⟩,
 ⟨some 2, none, .mv false (.c (.int .i64 0)), none⟩] (some [1])) (
.seq (.reg false [
 ⟨some 3, none, .mv false (.c (.int .i64 0)), none⟩] (some [1, 3])) (
.seq (.seq (.reg false [
 ⟨some 6, none, .fld 0 (.t 1), none⟩,
 ⟨some 7, none, .ld none (.t 6), none⟩,
 ⟨some 8, none, .len false (.t 7), none⟩,
 ⟨some 9, none, .mv false (.c (.int .i64 0)), none⟩] (some [3, 7, 8, 9])) (
.blk 0 (
 .loop (
 .seq (.reg false [
 ⟨some 10, none, .bin .lss .i64 (.t 9) (.t 8), none⟩] (some [3, 7, 8, 9, 10])) (
 .seq (.ite (.t 10) (
 .skip) (
 .exit 0)) (
 .seq (.blk 1 (
 .seq (.reg false [
 ⟨some 11, none, .ixs 4 (.t 7) (.t 9), none⟩,
 ⟨some 12, none, .ld (some 4) (.t 11), none⟩,
 ⟨some 5, none, .alloc [(.int .i64 0), (.int .i64 0), (.int .i64 0), (.int .i64 0)], none⟩,
 ⟨none, none, .st (some 4) (.t 5) (.t 12), none⟩] (some [3, 5, 7, 8, 9])) (
 .reg false [
 ⟨some 13, none, .mv false (.t 3), none⟩,
 ⟨some 14, none, .fld 2 (.t 5), none⟩,
 ⟨some 15, none, .ld none (.t 14), none⟩,
 ⟨some 16, none, .fld 3 (.t 5), none⟩,
 ⟨some 17, none, .ld none (.t 16), none⟩,
 ⟨some 18, none, .bin .mul .i64 (.t 15) (.t 17), none⟩,
 ⟨some 19, none, .bin .add .i64 (.t 13) (.t 18), none⟩,
 ⟨some 3, none, .mv false (.t 19), none⟩] (some [3, 7, 8, 9])))) (
 .reg false [
 ⟨some 20, none, .bin .add .i64 (.t 9) (.c (.int .i64 1)), none⟩,
 ⟨some 9, none, .mv false (.t 20), none⟩] (some [3, 7, 8, 9])))))))) (
.seq (.reg false [
 ⟨some 21, none, .mv false (.t 3), none⟩,
 ⟨some 2, none, .mv false (.t 21), none⟩] (some [2])) (
.ret))))
set_option maxRecDepth 1000000 in
theorem y8 : (Tryz.f31.body.bind fun code => kF Tryz.prog Tryz.f31.ntmps code c_band_Region_Area) = some c_band_Region_Area.bare := by kernel_rfl
def qU : List R := [.t 2]
theorem Jg {ds : List D} {d : D} (hn : Nat.ble ds.length 22 = true) (h : run TSpC gtab 0 c_band_Region_Area (retK qU (· = d)) ⟨env0 0 ds, []⟩) : TSp 31 ds d := qn kM c_band_Region_Area qU (fn := Tryz.f31) (by kernel_rfl) (by kernel_rfl) y8 (by kernel_rfl) hn h
def c_grid_Grid_Row : C := .seq (.reg false [
 ⟨some 2, none, .box true (.t 0), none⟩,
 ⟨some 4, none, .mv false (.c (.str [])), none⟩] (some [1, 2])) (
.seq (.seq (.reg false [
 ⟨some 8, none, .mv false (.t 1), none⟩,
 ⟨some 9, none, .bin .lss .i64 (.t 8) (.c (.int .i64 0)), none⟩,
 ⟨some 10, none, .mv false (.t 9), none⟩,
 ⟨some 11, some (10, false), .mv false (.t 1), none⟩,
 ⟨some 12, some (10, false), .fld 1 (.t 2), none⟩,
 ⟨some 13, some (10, false), .ld none (.t 12), none⟩,
 ⟨some 14, some (10, false), .bin .geq .i64 (.t 11) (.t 13), none⟩,
 ⟨some 15, none, .pick (.t 10) (.c (.bool true)) (.t 14), none⟩] (some [1, 2, 15])) (
.ite (.t 15) (
 .seq (.reg false [
 ⟨some 4, none, .mv false (.c (.str [])), none⟩] (some [4])) (
 .ret)) (
 .skip))) (
.seq (.reg false [
 ⟨some 16, none, .fld 0 (.t 2), none⟩,
 ⟨some 17, none, .ld none (.t 16), none⟩,
 ⟨some 18, none, .mks 5 1 none [(.int .u8 0)] (.c (.int .i64 0)) (.t 17), none⟩,
 ⟨some 5, none, .mv false (.t 18), none⟩] (some [1, 2, 5])) (
.seq (.seq (.reg false [
 ⟨some 19, none, .fld 2 (.t 2), none⟩,
 ⟨some 20, none, .ld none (.t 19), none⟩,
 ⟨some 21, none, .mv false (.t 1), none⟩,
 ⟨some 22, none, .fld 0 (.t 2), none⟩,
 ⟨some 23, none, .ld none (.t 22), none⟩,
 ⟨some 24, none, .bin .mul .i64 (.t 21) (.t 23), none⟩,
 ⟨some 25, none, .mv false (.t 1), none⟩,
 ⟨some 26, none, .bin .add .i64 (.t 25) (.c (.int .i64 1)), none⟩,
 ⟨some 27, none, .fld 0 (.t 2), none⟩,
 ⟨some 28, none, .ld none (.t 27), none⟩,
 ⟨some 29, none, .bin .mul .i64 (.t 26) (.t 28), none⟩,
 ⟨some 30, none, .sls false 1 (.t 20) (some (.t 24)) (some (.t 29)), none⟩,
 ⟨some 31, none, .len false (.t 30), none⟩,
 ⟨some 32, none, .mv false (.c (.int .i64 0)), none⟩] (some [5, 30, 31, 32])) (
.blk 0 (
 .loop (
 .seq (.reg false [
 ⟨some 33, none, .bin .lss .i64 (.t 32) (.t 31), none⟩] (some [5, 30, 31, 32, 33])) (
 .seq (.ite (.t 33) (
 .skip) (
 .exit 0)) (
 .seq (.blk 1 (
 .seq (.reg false [
 ⟨some 34, none, .ixs 1 (.t 30) (.t 32), none⟩,
 ⟨some 35, none, .ld none (.t 34), none⟩,
 ⟨some 7, none, .mv false (.t 35), none⟩] (some [5, 7, 30, 31, 32])) (
 .reg false [
 ⟨some 36, none, .mv false (.t 5), none⟩,
 ⟨some 37, none, .mv false (.t 7), none⟩,
 ⟨some 38, none, .bsl none 5 1 none [.t 37], none⟩,
 ⟨some 39, none, .app 5 1 1 (.t 36) (.t 38), none⟩,
 ⟨some 5, none, .mv false (.t 39), none⟩] (some [5, 30, 31, 32])))) (
 .reg false [
 ⟨some 40, none, .bin .add .i64 (.t 32) (.c (.int .i64 1)), none⟩,
 ⟨some 32, none, .mv false (.t 40), none⟩] (some [5, 30, 31, 32])))))))) (
.seq (.reg false [
 ⟨some 41, none, .mv false (.t 5), none⟩,
 ⟨some 42, none, .b2s (.t 41), none⟩,
 ⟨some 4, none, .mv false (.t 42), none⟩] (some [4])) (
.ret)))))
set_option maxRecDepth 1000000 in
theorem KL : (Tryz.f57.body.bind fun code => kF Tryz.prog Tryz.f57.ntmps code c_grid_Grid_Row) = some c_grid_Grid_Row.bare := by kernel_rfl
def qZ : List R := [.t 4]
theorem KX {ds : List D} {d : D} (hn : Nat.ble ds.length 43 = true) (h : run TSpC gtab 0 c_grid_Grid_Row (retK qZ (· = d)) ⟨env0 0 ds, []⟩) : TSp 57 ds d := qn kM c_grid_Grid_Row qZ (fn := Tryz.f57) (by kernel_rfl) (by kernel_rfl) KL (by kernel_rfl) hn h
def c_band_counts : C := .seq (.reg false [
 ⟨some 1, none, .box true (.t 0), none⟩,
 ⟨some 2, none, .mv false (.c (.bool false)), none⟩] (some [1])) (
.seq (.reg false [
 ⟨some 3, none, .fld 0 (.t 1), none⟩,
 ⟨some 4, none, .ld none (.t 3), none⟩,
 ⟨some 5, none, .fld 2 (.t 1), none⟩,
 ⟨some 6, none, .ld none (.t 5), none⟩,
 ⟨some 7, none, .call false 121 [(.t 4), (.t 6)], none⟩,
 ⟨some 8, none, .mv false (.t 7), none⟩,
 ⟨some 9, some (8, true), .fld 1 (.t 1), none⟩,
 ⟨some 10, some (8, true), .ld none (.t 9), none⟩,
 ⟨some 11, some (8, true), .fld 3 (.t 1), none⟩,
 ⟨some 12, some (8, true), .ld none (.t 11), none⟩,
 ⟨some 13, some (8, true), .call false 121 [(.t 10), (.t 12)], none⟩,
 ⟨some 14, none, .pick (.t 8) (.t 13) (.c (.bool false)), none⟩,
 ⟨some 2, none, .mv false (.t 14), none⟩] (some [2])) (
.ret))
set_option maxRecDepth 1000000 in
theorem Zi : (Tryz.f58.body.bind fun code => kF Tryz.prog Tryz.f58.ntmps code c_band_counts) = some c_band_counts.bare := by kernel_rfl
def z7 : List R := [.t 2]
theorem ZM {ds : List D} {d : D} (hn : Nat.ble ds.length 15 = true) (h : run TSpC gtab 0 c_band_counts (retK z7 (· = d)) ⟨env0 0 ds, []⟩) : TSp 58 ds d := qn kM c_band_counts z7 (fn := Tryz.f58) (by kernel_rfl) (by kernel_rfl) Zi (by kernel_rfl) hn h
def c_band_edges : C := .seq (.reg false [
 ⟨some 2, none, .nilS 3 1, none⟩] (some [0])) (
.seq (.reg false [
 ⟨some 6, none, .mv false (.t 0), none⟩,
 ⟨some 7, none, .len false (.t 6), none⟩,
 ⟨some 8, none, .bin .mul .i64 (.c (.int .i64 2)) (.t 7), none⟩,
 ⟨some 9, none, .mks 3 1 none [(.int .i64 0)] (.c (.int .i64 0)) (.t 8), none⟩,
 ⟨some 3, none, .mv false (.t 9), none⟩] (some [0, 3])) (
.seq (.seq (.reg false [
 ⟨some 10, none, .mv false (.t 0), none⟩,
 ⟨some 11, none, .len false (.t 10), none⟩,
 ⟨some 12, none, .mv false (.c (.int .i64 0)), none⟩] (some [3, 10, 11, 12])) (
.blk 0 (
 .loop (
 .seq (.reg false [
 ⟨some 13, none, .bin .lss .i64 (.t 12) (.t 11), none⟩] (some [3, 10, 11, 12, 13])) (
 .seq (.ite (.t 13) (
 .skip) (
 .exit 0)) (
 .seq (.blk 1 (
 .seq (.reg false [
 ⟨some 14, none, .ixs 4 (.t 10) (.t 12), none⟩,
 ⟨some 15, none, .ld (some 4) (.t 14), none⟩,
 ⟨some 5, none, .alloc [(.int .i64 0), (.int .i64 0), (.int .i64 0), (.int .i64 0)], none⟩,
 ⟨none, none, .st (some 4) (.t 5) (.t 15), none⟩] (some [3, 5, 10, 11, 12])) (
 .reg false [
 ⟨some 16, none, .mv false (.t 3), none⟩,
 ⟨some 17, none, .fld 1 (.t 5), none⟩,
 ⟨some 18, none, .ld none (.t 17), none⟩,
 ⟨some 19, none, .fld 1 (.t 5), none⟩,
 ⟨some 20, none, .ld none (.t 19), none⟩,
 ⟨some 21, none, .fld 3 (.t 5), none⟩,
 ⟨some 22, none, .ld none (.t 21), none⟩,
 ⟨some 23, none, .bin .add .i64 (.t 20) (.t 22), none⟩,
 ⟨some 24, none, .bsl none 3 1 none [(.t 18), (.t 23)], none⟩,
 ⟨some 25, none, .app 3 1 8 (.t 16) (.t 24), none⟩,
 ⟨some 3, none, .mv false (.t 25), none⟩] (some [3, 10, 11, 12])))) (
 .reg false [
 ⟨some 26, none, .bin .add .i64 (.t 12) (.c (.int .i64 1)), none⟩,
 ⟨some 12, none, .mv false (.t 26), none⟩] (some [3, 10, 11, 12])))))))) (
.seq (.reg false [
 ⟨some 27, none, .mv false (.t 3), none⟩,
 ⟨some 28, none, .call true 125 [.t 27], none⟩] (some [3])) (
.seq (.reg false [
 ⟨some 29, none, .mv false (.t 3), none⟩,
 ⟨some 30, none, .call true 126 [.t 29], none⟩,
 ⟨some 2, none, .mv false (.t 30), none⟩] (some [2])) (
.ret)))))
set_option maxRecDepth 1000000 in
theorem ZX : (Tryz.f63.body.bind fun code => kF Tryz.prog Tryz.f63.ntmps code c_band_edges) = some c_band_edges.bare := by kernel_rfl
def zu : List R := [.t 2]
theorem Vp {ds : List D} {d : D} {bx bx' : List Ent} (hn : Nat.ble ds.length 31 = true) (h : run TSpC gtab (j0 bx) c_band_edges (retG zu (fun d1 bx1 => Rt (j0 bx) bx1 d1 d bx')) ⟨env0 0 ds, bx⟩) : TSpM 63 ds bx d bx' := qI kM c_band_edges zu (fn := Tryz.f63) (by kernel_rfl) (by kernel_rfl) ZX (by kernel_rfl) hn h
def c_slices_DeleteFunc_api_Rect_api_Rect : C := .seq (.reg false [
 ⟨some 4, none, .nilS 45 4, none⟩] (some [0, 1])) (
.seq (.reg false [
 ⟨some 8, none, .mv false (.t 0), none⟩,
 ⟨some 9, none, .mv false (.t 1), none⟩,
 ⟨some 10, none, .call false 127 [(.t 8), (.t 9)], none⟩,
 ⟨some 5, none, .mv false (.t 10), none⟩] (some [0, 1, 5])) (
.seq (.seq (.reg false [
 ⟨some 11, none, .mv false (.t 5), none⟩,
 ⟨some 12, none, .bin .eql .i64 (.t 11) (.c (.int .i64 (-1))), none⟩] (some [0, 1, 5, 12])) (
.ite (.t 12) (
 .seq (.reg false [
 ⟨some 13, none, .mv false (.t 0), none⟩,
 ⟨some 4, none, .mv false (.t 13), none⟩] (some [4])) (
 .ret)) (
 .skip))) (
.seq (.seq (.reg false [
 ⟨some 14, none, .mv false (.t 5), none⟩,
 ⟨some 15, none, .bin .add .i64 (.t 14) (.c (.int .i64 1)), none⟩,
 ⟨some 6, none, .mv false (.t 15), none⟩] (some [0, 1, 5, 6])) (
.blk 0 (
 .loop (
 .seq (.seq (.reg false [
 ⟨some 16, none, .mv false (.t 6), none⟩,
 ⟨some 17, none, .mv false (.t 0), none⟩,
 ⟨some 18, none, .len false (.t 17), none⟩,
 ⟨some 19, none, .bin .lss .i64 (.t 16) (.t 18), none⟩] (some [0, 1, 5, 6, 19])) (
 .ite (.t 19) (
 .skip) (
 .exit 0))) (
 .seq (.blk 1 (
 .seq (.reg false [
 ⟨some 22, none, .mv false (.t 0), none⟩,
 ⟨some 23, none, .mv false (.t 6), none⟩,
 ⟨some 24, none, .ixs 4 (.t 22) (.t 23), none⟩,
 ⟨some 25, none, .ld (some 4) (.t 24), none⟩,
 ⟨some 7, none, .alloc [(.int .i64 0), (.int .i64 0), (.int .i64 0), (.int .i64 0)], none⟩,
 ⟨none, none, .st (some 4) (.t 7) (.t 25), none⟩] (some [0, 1, 5, 6, 7])) (
 .seq (.reg false [
 ⟨some 26, none, .mv false (.t 1), none⟩,
 ⟨some 27, none, .ld (some 4) (.t 7), none⟩,
 ⟨some 28, none, .callv false (.t 26) [.t 27], none⟩,
 ⟨some 29, none, .not (.t 28), none⟩] (some [0, 1, 5, 6, 7, 29])) (
 .ite (.t 29) (
 .seq (.reg false [
 ⟨some 30, none, .mv false (.t 0), none⟩,
 ⟨some 31, none, .mv false (.t 5), none⟩,
 ⟨some 32, none, .ld (some 4) (.t 7), none⟩,
 ⟨some 33, none, .ixs 4 (.t 30) (.t 31), none⟩,
 ⟨none, none, .st (some 4) (.t 33) (.t 32), none⟩] (some [0, 1, 5, 6])) (
 .reg false [
 ⟨some 34, none, .mv false (.t 5), none⟩,
 ⟨some 35, none, .bin .add .i64 (.t 34) (.c (.int .i64 1)), none⟩,
 ⟨some 5, none, .mv false (.t 35), none⟩] (some [0, 1, 5, 6]))) (
 .skip))))) (
 .reg false [
 ⟨some 20, none, .mv false (.t 6), none⟩,
 ⟨some 21, none, .bin .add .i64 (.t 20) (.c (.int .i64 1)), none⟩,
 ⟨some 6, none, .mv false (.t 21), none⟩] (some [0, 1, 5, 6]))))))) (
.seq (.reg false [
 ⟨some 36, none, .mv false (.t 0), none⟩,
 ⟨some 37, none, .mv false (.t 5), none⟩,
 ⟨some 38, none, .prm false false (.sub 40 true false) [(.t 36), (.t 37)], none⟩,
 ⟨none, none, .prm false true (.clr 40) [.t 38], none⟩] (some [0, 5])) (
.seq (.reg false [
 ⟨some 39, none, .mv false (.t 0), none⟩,
 ⟨some 40, none, .mv false (.t 5), none⟩,
 ⟨some 41, none, .prm false true (.trc 40) [(.t 39), (.t 40)], none⟩,
 ⟨some 4, none, .mv false (.t 41), none⟩] (some [4])) (
.ret))))))
set_option maxRecDepth 1000000 in
theorem zC : (Tryz.f64.body.bind fun code => kF Tryz.prog Tryz.f64.ntmps code c_slices_DeleteFunc_api_Rect_api_Rect) = some c_slices_DeleteFunc_api_Rect_api_Rect.bare := by kernel_rfl
def kC : List R := [.t 4]
theorem zH {ds : List D} {d : D} {bx bx' : List Ent} (hn : Nat.ble ds.length 42 = true) (h : run TSpC gtab (j0 bx) c_slices_DeleteFunc_api_Rect_api_Rect (retG kC (fun d1 bx1 => Rt (j0 bx) bx1 d1 d bx')) ⟨env0 0 ds, bx⟩) : TSpM 64 ds bx d bx' := qI kM c_slices_DeleteFunc_api_Rect_api_Rect kC (fn := Tryz.f64) (by kernel_rfl) (by kernel_rfl) zC (by kernel_rfl) hn h
def c_band_Of_2 : C := .seq (.reg false [
 ⟨some 2, none, .box true (.t 0), none⟩,
 ⟨some 3, none, .mv false (.c (.bool false)), none⟩] (some [1, 2])) (
.seq (.reg false [
 ⟨some 4, none, .fld 1 (.t 2), none⟩,
 ⟨some 5, none, .ld none (.t 4), none⟩,
 ⟨some 6, none, .fld 3 (.t 2), none⟩,
 ⟨some 7, none, .ld none (.t 6), none⟩,
 ⟨some 8, none, .bin .add .i64 (.t 5) (.t 7), none⟩,
 ⟨some 9, none, .ld none (.t 1), none⟩,
 ⟨some 10, none, .bin .leq .i64 (.t 8) (.t 9), none⟩,
 ⟨some 3, none, .mv false (.t 10), none⟩] (some [3])) (
.ret))
set_option maxRecDepth 1000000 in
theorem Xh : (Tryz.f65.body.bind fun code => kF Tryz.prog Tryz.f65.ntmps code c_band_Of_2) = some c_band_Of_2.bare := by kernel_rfl
def Jv : List R := [.t 3]
theorem Xw {ds : List D} {d : D} {bx bx' : List Ent} (hn : Nat.ble ds.length 11 = true) (h : run TSpC gtab (j0 bx) c_band_Of_2 (retG Jv (fun d1 bx1 => Rt (j0 bx) bx1 d1 d bx')) ⟨env0 0 ds, bx⟩) : TSpM 65 ds bx d bx' := qI kM c_band_Of_2 Jv (fn := Tryz.f65) (by kernel_rfl) (by kernel_rfl) Xh (by kernel_rfl) hn h
def c_band_spans : C := .seq (.reg false [
 ⟨some 1, none, .box false (.t 0), none⟩,
 ⟨some 2, none, .mv false (.c .nil), none⟩] (some [1])) (
.seq (.reg false [
 ⟨some 3, none, .clo 128 [.t 1], none⟩,
 ⟨some 2, none, .mv false (.t 3), none⟩] (some [2])) (
.ret))
set_option maxRecDepth 1000000 in
theorem ZW : (Tryz.f67.body.bind fun code => kF Tryz.prog Tryz.f67.ntmps code c_band_spans) = some c_band_spans.bare := by kernel_rfl
def yK : List R := [.t 2]
theorem Vo {ds : List D} {d : D} {bx bx' : List Ent} (hn : Nat.ble ds.length 4 = true) (h : run TSpC gtab (j0 bx) c_band_spans (retG yK (fun d1 bx1 => Rt (j0 bx) bx1 d1 d bx')) ⟨env0 0 ds, bx⟩) : TSpM 67 ds bx d bx' := qI kM c_band_spans yK (fn := Tryz.f67) (by kernel_rfl) (by kernel_rfl) ZW (by kernel_rfl) hn h
def c_band_alike : C := .seq (.reg false [
 ⟨some 4, none, .mv false (.c (.bool false)), none⟩] (some [0, 1])) (
.seq (.reg false [
 ⟨some 5, none, .mv false (.t 0), none⟩,
 ⟨some 6, none, .len false (.t 5), none⟩,
 ⟨some 7, none, .bin .gtr .i64 (.t 6) (.c (.int .i64 0)), none⟩,
 ⟨some 8, none, .mv false (.t 7), none⟩,
 ⟨some 9, some (8, true), .mv false (.t 0), none⟩,
 ⟨some 10, some (8, true), .mv false (.t 1), none⟩,
 ⟨some 11, some (8, true), .call false 129 [(.t 9), (.t 10), (.c (.fn 130 []))], none⟩,
 ⟨some 12, none, .pick (.t 8) (.t 11) (.c (.bool false)), none⟩,
 ⟨some 4, none, .mv false (.t 12), none⟩] (some [4])) (
.ret))
set_option maxRecDepth 1000000 in
theorem ZY : (Tryz.f68.body.bind fun code => kF Tryz.prog Tryz.f68.ntmps code c_band_alike) = some c_band_alike.bare := by kernel_rfl
def xD : List R := [.t 4]
theorem Vk {ds : List D} {d : D} (hn : Nat.ble ds.length 13 = true) (h : run TSpC gtab 0 c_band_alike (retK xD (· = d)) ⟨env0 0 ds, []⟩) : TSp 68 ds d := qn kM c_band_alike xD (fn := Tryz.f68) (by kernel_rfl) (by kernel_rfl) ZY (by kernel_rfl) hn h
def c_slices_Clip_api_Rect_api_Rect : C := .seq (.reg false [
 ⟨some 2, none, .nilS 45 4, none⟩] (some [0])) (
.seq (.reg false [
 ⟨some 3, none, .mv false (.t 0), none⟩,
 ⟨some 4, none, .mv false (.t 0), none⟩,
 ⟨some 5, none, .len false (.t 4), none⟩,
 ⟨some 6, none, .mv false (.t 0), none⟩,
 ⟨some 7, none, .len false (.t 6), none⟩,
 ⟨some 8, none, .prm false false (.clp 40) [(.t 3), (.t 5), (.t 7)], none⟩,
 ⟨some 2, none, .mv false (.t 8), none⟩] (some [2])) (
.ret))
set_option maxRecDepth 1000000 in
theorem vu : (Tryz.f69.body.bind fun code => kF Tryz.prog Tryz.f69.ntmps code c_slices_Clip_api_Rect_api_Rect) = some c_slices_Clip_api_Rect_api_Rect.bare := by kernel_rfl
def qi : List R := [.t 2]
theorem vD {ds : List D} {d : D} (hn : Nat.ble ds.length 9 = true) (h : run TSpC gtab 0 c_slices_Clip_api_Rect_api_Rect (retK qi (· = d)) ⟨env0 0 ds, []⟩) : TSp 69 ds d := qn kM c_slices_Clip_api_Rect_api_Rect qi (fn := Tryz.f69) (by kernel_rfl) (by kernel_rfl) vu (by kernel_rfl) hn h
def c_region_Meet_1 : C := .seq (.reg false [
 ⟨some 4, none, .mv false (.c (.bool false)), none⟩] (some [0, 1])) (
.seq (.reg false [
 ⟨some 5, none, .mv false (.t 0), none⟩,
 ⟨some 6, none, .mv false (.t 5), none⟩,
 ⟨some 7, some (6, true), .mv false (.t 1), none⟩,
 ⟨some 8, none, .pick (.t 6) (.t 7) (.c (.bool false)), none⟩,
 ⟨some 4, none, .mv false (.t 8), none⟩] (some [4])) (
.ret))
set_option maxRecDepth 1000000 in
theorem KH : (Tryz.f70.body.bind fun code => kF Tryz.prog Tryz.f70.ntmps code c_region_Meet_1) = some c_region_Meet_1.bare := by kernel_rfl
def xq : List R := [.t 4]
theorem KV {ds : List D} {d : D} (hn : Nat.ble ds.length 9 = true) (h : run TSpC gtab 0 c_region_Meet_1 (retK xq (· = d)) ⟨env0 0 ds, []⟩) : TSp 70 ds d := qn kM c_region_Meet_1 xq (fn := Tryz.f70) (by kernel_rfl) (by kernel_rfl) KH (by kernel_rfl) hn h
def c_region_rule_join : C := .seq (.reg false [
 ⟨some 3, none, .box true (.t 0), none⟩,
 ⟨some 4, none, .box true (.t 1), none⟩,
 ⟨some 5, none, .box true (.t 2), none⟩,
 ⟨some 6, none, .alloc [(.ls 4 [])], none⟩] (some [3, 4, 5, 6])) (
.seq (.reg true [
 ⟨some 22, none, .ld (some 1) (.t 4), none⟩,
 ⟨some 23, none, .call false 76 [.t 22], none⟩,
 ⟨some 24, none, .ld (some 1) (.t 5), none⟩,
 ⟨some 25, none, .call false 76 [.t 24], none⟩,
 ⟨some 7, none, .mv false (.t 23), none⟩,
 ⟨some 8, none, .mv false (.t 25), none⟩] (some [3, 6, 7, 8])) (
.seq (.reg false [
 ⟨some 26, none, .mv false (.t 7), none⟩,
 ⟨some 27, none, .mv false (.t 8), none⟩,
 ⟨some 28, none, .bsl none 40 1 none [(.t 26), (.t 27)], none⟩,
 ⟨some 29, none, .call false 131 [(.c (.fn 132 [])), (.t 28)], none⟩,
 ⟨some 9, none, .mv false (.t 29), none⟩] (some [3, 6, 7, 8, 9])) (
.seq (.reg false [
 ⟨some 30, none, .mv false (.t 7), none⟩,
 ⟨some 31, none, .bld [(.ls 4 [])] [(0, none, (.t 30))], none⟩,
 ⟨some 32, none, .mv false (.t 8), none⟩,
 ⟨some 33, none, .bld [(.ls 4 [])] [(0, none, (.t 32))], none⟩,
 ⟨some 10, none, .alloc [(.ls 4 [])], none⟩,
 ⟨some 11, none, .alloc [(.ls 4 [])], none⟩,
 ⟨none, none, .st (some 1) (.t 10) (.t 31), none⟩,
 ⟨none, none, .st (some 1) (.t 11) (.t 33), none⟩] (some [3, 6, 9, 10, 11])) (
.seq (.reg false [
 ⟨some 12, none, .nilS 45 4, none⟩] (some [3, 6, 9, 10, 11, 12])) (
.seq (.seq (.reg false [
 ⟨some 13, none, .mv false (.c (.int .i64 0)), none⟩] (some [3, 6, 9, 10, 11, 12, 13])) (
.blk 0 (
 .loop (
 .seq (.seq (.reg false [
 ⟨some 34, none, .mv false (.t 13), none⟩,
 ⟨some 35, none, .bin .add .i64 (.t 34) (.c (.int .i64 1)), none⟩,
 ⟨some 36, none, .mv false (.t 9), none⟩,
 ⟨some 37, none, .len false (.t 36), none⟩,
 ⟨some 38, none, .bin .lss .i64 (.t 35) (.t 37), none⟩] (some [3, 6, 9, 10, 11, 12, 13, 38])) (
 .ite (.t 38) (
 .skip) (
 .exit 0))) (
 .seq (.blk 1 (
 .seq (.reg true [
 ⟨some 41, none, .mv false (.t 9), none⟩,
 ⟨some 42, none, .mv false (.t 13), none⟩,
 ⟨some 43, none, .ixs 1 (.t 41) (.t 42), none⟩,
 ⟨some 44, none, .ld none (.t 43), none⟩,
 ⟨some 45, none, .mv false (.t 9), none⟩,
 ⟨some 46, none, .mv false (.t 13), none⟩,
 ⟨some 47, none, .bin .add .i64 (.t 46) (.c (.int .i64 1)), none⟩,
 ⟨some 48, none, .ixs 1 (.t 45) (.t 47), none⟩,
 ⟨some 49, none, .ld none (.t 48), none⟩,
 ⟨some 50, none, .mv false (.t 9), none⟩,
 ⟨some 51, none, .mv false (.t 13), none⟩,
 ⟨some 52, none, .ixs 1 (.t 50) (.t 51), none⟩,
 ⟨some 53, none, .ld none (.t 52), none⟩,
 ⟨some 54, none, .bin .sub .i64 (.t 49) (.t 53), none⟩,
 ⟨some 14, none, .mv false (.t 44), none⟩,
 ⟨some 15, none, .mv false (.t 54), none⟩] (some [3, 6, 9, 10, 11, 12, 13, 14, 15])) (
 .seq (.reg false [
 ⟨some 55, none, .mv false (.t 14), none⟩,
 ⟨some 56, none, .call true 133 [(.t 10), (.t 55)], none⟩,
 ⟨some 57, none, .mv false (.t 14), none⟩,
 ⟨some 58, none, .call true 133 [(.t 11), (.t 57)], none⟩,
 ⟨some 16, none, .alloc [(.ls 4 [])], none⟩,
 ⟨some 17, none, .alloc [(.ls 4 [])], none⟩,
 ⟨none, none, .st none (.t 16) (.t 56), none⟩,
 ⟨none, none, .st none (.t 17) (.t 58), none⟩] (some [3, 6, 9, 10, 11, 12, 13, 14, 15, 16, 17])) (
 .seq (.reg false [
 ⟨some 59, none, .ld none (.t 16), none⟩,
 ⟨some 60, none, .ld none (.t 17), none⟩,
 ⟨some 61, none, .bsl none 40 1 none [(.t 59), (.t 60)], none⟩,
 ⟨some 62, none, .call false 131 [(.c (.fn 134 [])), (.t 61)], none⟩,
 ⟨some 18, none, .mv false (.t 62), none⟩] (some [3, 6, 9, 10, 11, 12, 13, 14, 15, 16, 17, 18])) (
 .seq (.reg false [
 ⟨some 19, none, .mv false (.c (.int .i64 0)), none⟩] (some [3, 6, 9, 10, 11, 12, 13, 14, 15, 16, 17, 18, 19])) (
 .blk 2 (
 .loop (
 .seq (.seq (.reg false [
 ⟨some 63, none, .mv false (.t 19), none⟩,
 ⟨some 64, none, .bin .add .i64 (.t 63) (.c (.int .i64 1)), none⟩,
 ⟨some 65, none, .mv false (.t 18), none⟩,
 ⟨some 66, none, .len false (.t 65), none⟩,
 ⟨some 67, none, .bin .lss .i64 (.t 64) (.t 66), none⟩] (some [3, 6, 9, 10, 11, 12, 13, 14, 15, 16, 17, 18, 19, 67])) (
 .ite (.t 67) (
 .skip) (
 .exit 2))) (
 .seq (.blk 3 (
 .seq (.reg true [
 ⟨some 70, none, .mv false (.t 18), none⟩,
 ⟨some 71, none, .mv false (.t 19), none⟩,
 ⟨some 72, none, .ixs 1 (.t 70) (.t 71), none⟩,
 ⟨some 73, none, .ld none (.t 72), none⟩,
 ⟨some 74, none, .mv false (.t 18), none⟩,
 ⟨some 75, none, .mv false (.t 19), none⟩,
 ⟨some 76, none, .bin .add .i64 (.t 75) (.c (.int .i64 1)), none⟩,
 ⟨some 77, none, .ixs 1 (.t 74) (.t 76), none⟩,
 ⟨some 78, none, .ld none (.t 77), none⟩,
 ⟨some 79, none, .mv false (.t 18), none⟩,
 ⟨some 80, none, .mv false (.t 19), none⟩,
 ⟨some 81, none, .ixs 1 (.t 79) (.t 80), none⟩,
 ⟨some 82, none, .ld none (.t 81), none⟩,
 ⟨some 83, none, .bin .sub .i64 (.t 78) (.t 82), none⟩,
 ⟨some 20, none, .mv false (.t 73), none⟩,
 ⟨some 21, none, .mv false (.t 83), none⟩] (some [3, 6, 9, 10, 11, 12, 13, 14, 15, 16, 17, 18, 19, 20, 21])) (
 .seq (.reg true [
 ⟨some 84, none, .fld 0 (.t 3), none⟩,
 ⟨some 85, none, .ld none (.t 84), some [0]⟩,
 ⟨some 86, none, .mv false (.t 20), none⟩,
 ⟨some 87, none, .callK [7] 135 [(.t 16), (.t 86)], none⟩,
 ⟨some 88, none, .mv false (.t 20), none⟩,
 ⟨some 89, none, .callK [8] 135 [(.t 17), (.t 88)], none⟩,
 ⟨some 90, none, .callv false (.t 85) [(.t 87), (.t 89)], none⟩] (some [3, 6, 9, 10, 11, 12, 13, 14, 15, 16, 17, 18, 19, 20, 21, 90])) (
 .ite (.t 90) (
 .reg false [
 ⟨some 91, none, .mv false (.t 12), none⟩,
 ⟨some 92, none, .mv false (.t 20), none⟩,
 ⟨some 93, none, .mv false (.t 14), none⟩,
 ⟨some 94, none, .mv false (.t 21), none⟩,
 ⟨some 95, none, .mv false (.t 15), none⟩,
 ⟨some 96, none, .bld [(.int .i64 0), (.int .i64 0), (.int .i64 0), (.int .i64 0)] [(0, none, (.t 92)), (1, none, (.t 93)), (2, none, (.t 94)), (3, none, (.t 95))], none⟩,
 ⟨some 97, none, .bsl none 45 4 (some 4) [.t 96], none⟩,
 ⟨some 98, none, .app 45 4 32 (.t 91) (.t 97), none⟩,
 ⟨some 12, none, .mv false (.t 98), none⟩] (some [3, 6, 9, 10, 11, 12, 13, 14, 15, 16, 17, 18, 19])) (
 .skip))))) (
 .reg false [
 ⟨some 68, none, .mv false (.t 19), none⟩,
 ⟨some 69, none, .bin .add .i64 (.t 68) (.c (.int .i64 1)), none⟩,
 ⟨some 19, none, .mv false (.t 69), none⟩] (some [3, 6, 9, 10, 11, 12, 13, 14, 15, 16, 17, 18, 19]))))))))))) (
 .reg false [
 ⟨some 39, none, .mv false (.t 13), none⟩,
 ⟨some 40, none, .bin .add .i64 (.t 39) (.c (.int .i64 1)), none⟩,
 ⟨some 13, none, .mv false (.t 40), none⟩] (some [3, 6, 9, 10, 11, 12, 13]))))))) (
.seq (.reg false [
 ⟨some 99, none, .mv false (.t 12), none⟩,
 ⟨some 100, none, .call true 11 [.t 99], none⟩,
 ⟨none, none, .st (some 1) (.t 6) (.t 100), none⟩] (some [6])) (
.ret)))))))
set_option maxRecDepth 1000000 in
theorem y4 : (Tryz.f71.body.bind fun code => kF Tryz.prog Tryz.f71.ntmps code c_region_rule_join) = some c_region_rule_join.bare := by kernel_rfl
def kE : List R := [.cell 6 (some 1)]
theorem Jf {ds : List D} {d : D} (hn : Nat.ble ds.length 101 = true) (h : run TSpC gtab 0 c_region_rule_join (retK kE (· = d)) ⟨env0 0 ds, []⟩) : TSp 71 ds d := qn kM c_region_rule_join kE (fn := Tryz.f71) (by kernel_rfl) (by kernel_rfl) y4 (by kernel_rfl) hn h
def c_grid_side : C := .seq (.reg false [
 ⟨some 2, none, .mv false (.c (.bool false)), none⟩] (some [0])) (
.seq (.reg false [
 ⟨some 3, none, .mv false (.t 0), none⟩,
 ⟨some 4, none, .bin .geq .i64 (.t 3) (.c (.int .i64 1)), none⟩,
 ⟨some 5, none, .mv false (.t 4), none⟩,
 ⟨some 6, some (5, true), .mv false (.t 0), none⟩,
 ⟨some 7, some (5, true), .bin .leq .i64 (.t 6) (.c (.int .i64 128)), none⟩,
 ⟨some 8, none, .pick (.t 5) (.t 7) (.c (.bool false)), none⟩,
 ⟨some 2, none, .mv false (.t 8), none⟩] (some [2])) (
.ret))
set_option maxRecDepth 1000000 in
theorem Xd : (Tryz.f73.body.bind fun code => kF Tryz.prog Tryz.f73.ntmps code c_grid_side) = some c_grid_side.bare := by kernel_rfl
def Jt : List R := [.t 2]
theorem Xt {ds : List D} {d : D} (hn : Nat.ble ds.length 9 = true) (h : run TSpC gtab 0 c_grid_side (retK Jt (· = d)) ⟨env0 0 ds, []⟩) : TSp 73 ds d := qn kM c_grid_side Jt (fn := Tryz.f73) (by kernel_rfl) (by kernel_rfl) Xd (by kernel_rfl) hn h
def c_band_Region_Rects : C := .seq (.reg false [
 ⟨some 1, none, .box true (.t 0), none⟩,
 ⟨some 2, none, .nilS 45 4, none⟩] (some [1])) (
.seq (.reg false [
 ⟨some 3, none, .fld 0 (.t 1), none⟩,
 ⟨some 4, none, .ld none (.t 3), none⟩,
 ⟨some 5, none, .call true 138 [.t 4], none⟩,
 ⟨some 2, none, .mv false (.t 5), none⟩] (some [2])) (
.ret))
set_option maxRecDepth 1000000 in
theorem yR : (Tryz.f76.body.bind fun code => kF Tryz.prog Tryz.f76.ntmps code c_band_Region_Rects) = some c_band_Region_Rects.bare := by kernel_rfl
def zk : List R := [.t 2]
theorem yY {ds : List D} {d : D} (hn : Nat.ble ds.length 6 = true) (h : run TSpC gtab 0 c_band_Region_Rects (retK zk (· = d)) ⟨env0 0 ds, []⟩) : TSp 76 ds d := qn kM c_band_Region_Rects zk (fn := Tryz.f76) (by kernel_rfl) (by kernel_rfl) yR (by kernel_rfl) hn h
def c_grid_Grid_twin : C := .seq (.reg false [
 ⟨some 1, none, .box true (.t 0), none⟩,
 ⟨some 2, none, .alloc [(.int .i64 0), (.int .i64 0), (.ls 1 [])], none⟩] (some [1, 2])) (
.seq (.reg false [
 ⟨some 4, none, .fld 2 (.t 1), none⟩,
 ⟨some 5, none, .ld none (.t 4), none⟩,
 ⟨some 6, none, .len false (.t 5), none⟩,
 ⟨some 7, none, .mks 51 1 none [(.int .u8 0)] (.t 6) (.t 6), none⟩,
 ⟨some 3, none, .mv false (.t 7), none⟩] (some [1, 2, 3])) (
.seq (.reg false [
 ⟨some 8, none, .mv false (.t 3), none⟩,
 ⟨some 9, none, .fld 2 (.t 1), none⟩,
 ⟨some 10, none, .ld none (.t 9), none⟩,
 ⟨some 11, none, .cpy 51 1 (.t 8) (.t 10), none⟩] (some [1, 2, 3])) (
.seq (.reg false [
 ⟨some 12, none, .fld 0 (.t 1), none⟩,
 ⟨some 13, none, .ld none (.t 12), none⟩,
 ⟨some 14, none, .fld 1 (.t 1), none⟩,
 ⟨some 15, none, .ld none (.t 14), none⟩,
 ⟨some 16, none, .mv false (.t 3), none⟩,
 ⟨some 17, none, .bld [(.int .i64 0), (.int .i64 0), (.ls 1 [])] [(0, none, (.t 13)), (1, none, (.t 15)), (2, none, (.t 16))], none⟩,
 ⟨none, none, .st (some 3) (.t 2) (.t 17), none⟩] (some [2])) (
.ret))))
set_option maxRecDepth 1000000 in
theorem Ke : (Tryz.f78.body.bind fun code => kF Tryz.prog Tryz.f78.ntmps code c_grid_Grid_twin) = some c_grid_Grid_twin.bare := by kernel_rfl
def vS : List R := [.cell 2 (some 3)]
theorem Kt {ds : List D} {d : D} {bx bx' : List Ent} (hn : Nat.ble ds.length 18 = true) (h : run TSpC gtab (j0 bx) c_grid_Grid_twin (retG vS (fun d1 bx1 => Rt (j0 bx) bx1 d1 d bx')) ⟨env0 0 ds, bx⟩) : TSpM 78 ds bx d bx' := qI kM c_grid_Grid_twin vS (fn := Tryz.f78) (by kernel_rfl) (by kernel_rfl) Ke (by kernel_rfl) hn h
def c_grid_Grid_spans : C := .seq (.reg false [
 ⟨some 3, none, .box true (.t 0), none⟩,
 ⟨some 4, none, .box true (.t 1), none⟩] (some [2, 3, 4])) (
.seq (.skip) (
.seq (.reg false [
 ⟨some 11, none, .ld (some 1) (.t 4), none⟩,
 ⟨some 12, none, .call false 76 [.t 11], none⟩,
 ⟨some 13, none, .len false (.t 12), none⟩,
 ⟨some 14, none, .mv false (.c (.int .i64 0)), none⟩] (some [2, 3, 12, 13, 14])) (
.blk 0 (
 .loop (
 .seq (.reg false [
 ⟨some 15, none, .bin .lss .i64 (.t 14) (.t 13), none⟩] (some [2, 3, 12, 13, 14, 15])) (
 .seq (.ite (.t 15) (
 .skip) (
 .exit 0)) (
 .seq (.blk 1 (
 .seq (.reg false [
 ⟨some 16, none, .ixs 4 (.t 12) (.t 14), none⟩,
 ⟨some 17, none, .ld (some 4) (.t 16), none⟩,
 ⟨some 7, none, .alloc [(.int .i64 0), (.int .i64 0), (.int .i64 0), (.int .i64 0)], none⟩,
 ⟨none, none, .st (some 4) (.t 7) (.t 17), none⟩] (some [2, 3, 7, 12, 13, 14])) (
 .seq (.reg true [
 ⟨some 18, none, .fld 0 (.t 7), none⟩,
 ⟨some 19, none, .ld none (.t 18), none⟩,
 ⟨some 20, none, .mx (.t 19) (.c (.int .i64 0)), none⟩,
 ⟨some 21, none, .fld 0 (.t 7), none⟩,
 ⟨some 22, none, .ld none (.t 21), none⟩,
 ⟨some 23, none, .fld 2 (.t 7), none⟩,
 ⟨some 24, none, .ld none (.t 23), none⟩,
 ⟨some 25, none, .bin .add .i64 (.t 22) (.t 24), none⟩,
 ⟨some 26, none, .fld 0 (.t 3), none⟩,
 ⟨some 27, none, .ld none (.t 26), none⟩,
 ⟨some 28, none, .mn (.t 25) (.t 27), none⟩,
 ⟨some 8, none, .mv false (.t 20), none⟩,
 ⟨some 9, none, .mv false (.t 28), none⟩] (some [2, 3, 7, 8, 9, 12, 13, 14])) (
 .seq (.seq (.reg false [
 ⟨some 29, none, .mv false (.t 8), none⟩,
 ⟨some 30, none, .mv false (.t 9), none⟩,
 ⟨some 31, none, .bin .geq .i64 (.t 29) (.t 30), none⟩] (some [2, 3, 7, 8, 9, 12, 13, 14, 31])) (
 .ite (.t 31) (
 .exit 1) (
 .skip))) (
 .seq (.reg false [
 ⟨some 32, none, .fld 1 (.t 7), none⟩,
 ⟨some 33, none, .ld none (.t 32), none⟩,
 ⟨some 34, none, .mx (.t 33) (.c (.int .i64 0)), none⟩,
 ⟨some 10, none, .mv false (.t 34), none⟩] (some [2, 3, 7, 8, 9, 10, 12, 13, 14])) (
 .blk 2 (
 .loop (
 .seq (.seq (.reg false [
 ⟨some 35, none, .mv false (.t 10), none⟩,
 ⟨some 36, none, .fld 1 (.t 7), none⟩,
 ⟨some 37, none, .ld none (.t 36), none⟩,
 ⟨some 38, none, .fld 3 (.t 7), none⟩,
 ⟨some 39, none, .ld none (.t 38), none⟩,
 ⟨some 40, none, .bin .add .i64 (.t 37) (.t 39), none⟩,
 ⟨some 41, none, .bin .lss .i64 (.t 35) (.t 40), none⟩] (some [2, 3, 7, 8, 9, 10, 12, 13, 14, 41])) (
 .ite (.t 41) (
 .skip) (
 .exit 2))) (
 .seq (.blk 3 (
 .seq (.seq (.reg false [
 ⟨some 44, none, .mv false (.t 10), none⟩,
 ⟨some 45, none, .fld 1 (.t 3), none⟩,
 ⟨some 46, none, .ld none (.t 45), none⟩,
 ⟨some 47, none, .bin .geq .i64 (.t 44) (.t 46), none⟩] (some [2, 3, 7, 8, 9, 10, 12, 13, 14, 47])) (
 .ite (.t 47) (
 .exit 1) (
 .skip))) (
 .reg false [
 ⟨some 48, none, .mv false (.t 2), none⟩,
 ⟨some 49, none, .mv false (.t 10), none⟩,
 ⟨some 50, none, .mv false (.t 8), none⟩,
 ⟨some 51, none, .mv false (.t 9), none⟩,
 ⟨some 52, none, .callv true (.t 48) [(.t 49), (.t 50), (.t 51)], none⟩] (some [2, 3, 7, 8, 9, 10, 12, 13, 14])))) (
 .reg false [
 ⟨some 42, none, .mv false (.t 10), none⟩,
 ⟨some 43, none, .bin .add .i64 (.t 42) (.c (.int .i64 1)), none⟩,
 ⟨some 10, none, .mv false (.t 43), none⟩] (some [2, 3, 7, 8, 9, 10, 12, 13, 14]))))))))))) (
 .reg false [
 ⟨some 53, none, .bin .add .i64 (.t 14) (.c (.int .i64 1)), none⟩,
 ⟨some 14, none, .mv false (.t 53), none⟩] (some [2, 3, 12, 13, 14])))))))))
set_option maxRecDepth 1000000 in
theorem JQ : (Tryz.f79.body.bind fun code => kF Tryz.prog Tryz.f79.ntmps code c_grid_Grid_spans) = some c_grid_Grid_spans.bare := by kernel_rfl
def qt : List R := []
theorem Kb {ds : List D} {d : D} {bx bx' : List Ent} (hn : Nat.ble ds.length 54 = true) (h : run TSpC gtab (j0 bx) c_grid_Grid_spans (retG qt (fun d1 bx1 => Rt (j0 bx) bx1 d1 d bx')) ⟨env0 0 ds, bx⟩) : TSpM 79 ds bx d bx' := qI kM c_grid_Grid_spans qt (fn := Tryz.f79) (by kernel_rfl) (by kernel_rfl) JQ (by kernel_rfl) hn h
def c_slices_Equal_api_Rect_api_Rect : C := .seq (.reg false [
 ⟨some 4, none, .mv false (.c (.bool false)), none⟩] (some [0, 1])) (
.seq (.seq (.reg false [
 ⟨some 6, none, .mv false (.t 0), none⟩,
 ⟨some 7, none, .len false (.t 6), none⟩,
 ⟨some 8, none, .mv false (.t 1), none⟩,
 ⟨some 9, none, .len false (.t 8), none⟩,
 ⟨some 10, none, .bin .neq .i64 (.t 7) (.t 9), none⟩] (some [0, 1, 10])) (
.ite (.t 10) (
 .seq (.reg false [
 ⟨some 4, none, .mv false (.c (.bool false)), none⟩] (some [4])) (
 .ret)) (
 .skip))) (
.seq (.seq (.reg false [
 ⟨some 11, none, .mv false (.t 0), none⟩,
 ⟨some 12, none, .len false (.t 11), none⟩,
 ⟨some 13, none, .mv false (.c (.int .i64 0)), none⟩] (some [0, 1, 12, 13])) (
.blk 0 (
 .loop (
 .seq (.reg false [
 ⟨some 14, none, .bin .lss .i64 (.t 13) (.t 12), none⟩] (some [0, 1, 12, 13, 14])) (
 .seq (.ite (.t 14) (
 .skip) (
 .exit 0)) (
 .seq (.blk 1 (
 .seq (.reg false [
 ⟨some 15, none, .mv false (.t 13), none⟩,
 ⟨some 5, none, .mv false (.t 15), none⟩] (some [0, 1, 5, 12, 13])) (
 .seq (.reg true [
 ⟨some 16, none, .mv false (.t 0), none⟩,
 ⟨some 17, none, .mv false (.t 5), none⟩,
 ⟨some 18, none, .ixs 4 (.t 16) (.t 17), none⟩,
 ⟨some 19, none, .ld (some 4) (.t 18), none⟩,
 ⟨some 20, none, .mv false (.t 1), none⟩,
 ⟨some 21, none, .mv false (.t 5), none⟩,
 ⟨some 22, none, .ixs 4 (.t 20) (.t 21), none⟩,
 ⟨some 23, none, .ld (some 4) (.t 22), none⟩,
 ⟨some 24, none, .eqS true [.i .i64, .i .i64, .i .i64, .i .i64] (.t 19) (.t 23), none⟩] (some [0, 1, 12, 13, 24])) (
 .ite (.t 24) (
 .seq (.reg false [
 ⟨some 4, none, .mv false (.c (.bool false)), none⟩] (some [4])) (
 .ret)) (
 .skip))))) (
 .reg false [
 ⟨some 25, none, .bin .add .i64 (.t 13) (.c (.int .i64 1)), none⟩,
 ⟨some 13, none, .mv false (.t 25), none⟩] (some [0, 1, 12, 13])))))))) (
.seq (.reg false [
 ⟨some 4, none, .mv false (.c (.bool true)), none⟩] (some [4])) (
.ret))))
set_option maxRecDepth 1000000 in
theorem vd : (Tryz.f81.body.bind fun code => kF Tryz.prog Tryz.f81.ntmps code c_slices_Equal_api_Rect_api_Rect) = some c_slices_Equal_api_Rect_api_Rect.bare := by kernel_rfl
def kP : List R := [.t 4]
theorem vj {ds : List D} {d : D} (hn : Nat.ble ds.length 26 = true) (h : run TSpC gtab 0 c_slices_Equal_api_Rect_api_Rect (retK kP (· = d)) ⟨env0 0 ds, []⟩) : TSp 81 ds d := qn kM c_slices_Equal_api_Rect_api_Rect kP (fn := Tryz.f81) (by kernel_rfl) (by kernel_rfl) vd (by kernel_rfl) hn h
def c_pen_Pen_Check : C := .seq (.reg false [
 ⟨some 1, none, .box true (.t 0), none⟩,
 ⟨some 2, none, .mv false (.c (.int .i64 0)), none⟩] (some [1])) (
.seq (.blk 0 (
 .seq (.reg false [
 ⟨some 6, none, .fld 0 (.t 1), none⟩,
 ⟨some 7, none, .ld none (.t 6), none⟩,
 ⟨some 8, none, .call false 139 [.t 7], none⟩,
 ⟨some 9, none, .not (.t 8), none⟩,
 ⟨some 5, none, .mv false (.t 9), none⟩] (some [1, 5])) (
 .ite (.t 5) (
 .seq (.reg false [
 ⟨some 2, none, .mv false (.c (.int .i64 10)), none⟩] (some [2])) (
 .ret)) (
 .seq (.reg false [
 ⟨some 11, none, .fld 5 (.t 1), none⟩,
 ⟨some 12, none, .ld none (.t 11), none⟩,
 ⟨some 13, none, .call false 140 [.t 12], none⟩,
 ⟨some 14, none, .not (.t 13), none⟩,
 ⟨some 15, none, .mv false (.t 14), none⟩,
 ⟨some 16, some (15, false), .fld 6 (.t 1), none⟩,
 ⟨some 17, some (15, false), .ld none (.t 16), none⟩,
 ⟨some 18, some (15, false), .call false 140 [.t 17], none⟩,
 ⟨some 19, some (15, false), .not (.t 18), none⟩,
 ⟨some 20, none, .pick (.t 15) (.c (.bool true)) (.t 19), none⟩,
 ⟨some 10, none, .mv false (.t 20), none⟩] (some [1, 10])) (
 .ite (.t 10) (
 .seq (.reg false [
 ⟨some 2, none, .mv false (.c (.int .i64 1)), none⟩] (some [2])) (
 .ret)) (
 .seq (.reg false [
 ⟨some 22, none, .fld 7 (.t 1), none⟩,
 ⟨some 23, none, .ld none (.t 22), none⟩,
 ⟨some 24, none, .not (.t 23), none⟩,
 ⟨some 25, none, .mv false (.t 24), none⟩,
 ⟨some 26, some (25, true), .fld 8 (.t 1), none⟩,
 ⟨some 27, some (25, true), .ld none (.t 26), none⟩,
 ⟨some 28, some (25, true), .len false (.t 27), none⟩,
 ⟨some 29, some (25, true), .bin .gtr .i64 (.t 28) (.c (.int .i64 0)), none⟩,
 ⟨some 30, none, .pick (.t 25) (.t 29) (.c (.bool false)), none⟩,
 ⟨some 21, none, .mv false (.t 30), none⟩] (some [1, 21])) (
 .ite (.t 21) (
 .seq (.reg false [
 ⟨some 2, none, .mv false (.c (.int .i64 9)), none⟩] (some [2])) (
 .ret)) (
 .seq (.reg false [
 ⟨some 32, none, .fld 8 (.t 1), none⟩,
 ⟨some 33, none, .ld none (.t 32), none⟩,
 ⟨some 34, none, .len false (.t 33), none⟩,
 ⟨some 35, none, .bin .gtr .i64 (.t 34) (.c (.int .i64 256)), none⟩,
 ⟨some 31, none, .mv false (.t 35), none⟩] (some [1, 31])) (
 .ite (.t 31) (
 .seq (.reg false [
 ⟨some 2, none, .mv false (.c (.int .i64 5)), none⟩] (some [2])) (
 .ret)) (
 .skip)))))))))) (
.seq (.seq (.reg false [
 ⟨some 36, none, .fld 8 (.t 1), none⟩,
 ⟨some 37, none, .ld none (.t 36), none⟩,
 ⟨some 38, none, .len false (.t 37), none⟩,
 ⟨some 39, none, .mv false (.c (.int .i64 0)), none⟩] (some [37, 38, 39])) (
.blk 1 (
 .loop (
 .seq (.reg false [
 ⟨some 40, none, .bin .lss .i64 (.t 39) (.t 38), none⟩] (some [37, 38, 39, 40])) (
 .seq (.ite (.t 40) (
 .skip) (
 .exit 1)) (
 .seq (.blk 2 (
 .seq (.reg false [
 ⟨some 41, none, .ixs 4 (.t 37) (.t 39), none⟩,
 ⟨some 42, none, .ld (some 4) (.t 41), none⟩,
 ⟨some 4, none, .alloc [(.int .i64 0), (.int .i64 0), (.int .i64 0), (.int .i64 0)], none⟩,
 ⟨none, none, .st (some 4) (.t 4) (.t 42), none⟩] (some [4, 37, 38, 39])) (
 .seq (.reg false [
 ⟨some 43, none, .fld 0 (.t 4), none⟩,
 ⟨some 44, none, .ld none (.t 43), none⟩,
 ⟨some 45, none, .call false 140 [.t 44], none⟩,
 ⟨some 46, none, .not (.t 45), none⟩,
 ⟨some 47, none, .mv false (.t 46), none⟩,
 ⟨some 48, some (47, false), .fld 1 (.t 4), none⟩,
 ⟨some 49, some (47, false), .ld none (.t 48), none⟩,
 ⟨some 50, some (47, false), .call false 140 [.t 49], none⟩,
 ⟨some 51, some (47, false), .not (.t 50), none⟩,
 ⟨some 52, none, .pick (.t 47) (.c (.bool true)) (.t 51), none⟩,
 ⟨some 53, none, .mv false (.t 52), none⟩,
 ⟨some 54, some (53, false), .fld 2 (.t 4), none⟩,
 ⟨some 55, some (53, false), .ld none (.t 54), none⟩,
 ⟨some 56, some (53, false), .call false 141 [.t 55], none⟩,
 ⟨some 57, some (53, false), .not (.t 56), none⟩,
 ⟨some 58, none, .pick (.t 53) (.c (.bool true)) (.t 57), none⟩,
 ⟨some 59, none, .mv false (.t 58), none⟩,
 ⟨some 60, some (59, false), .fld 3 (.t 4), none⟩,
 ⟨some 61, some (59, false), .ld none (.t 60), none⟩,
 ⟨some 62, some (59, false), .call false 141 [.t 61], none⟩,
 ⟨some 63, some (59, false), .not (.t 62), none⟩,
 ⟨some 64, none, .pick (.t 59) (.c (.bool true)) (.t 63), none⟩] (some [37, 38, 39, 64])) (
 .ite (.t 64) (
 .seq (.reg false [
 ⟨some 2, none, .mv false (.c (.int .i64 1)), none⟩] (some [2])) (
 .ret)) (
 .skip))))) (
 .reg false [
 ⟨some 65, none, .bin .add .i64 (.t 39) (.c (.int .i64 1)), none⟩,
 ⟨some 39, none, .mv false (.t 65), none⟩] (some [37, 38, 39])))))))) (
.seq (.reg false [
 ⟨some 2, none, .mv false (.c (.int .i64 0)), none⟩] (some [2])) (
.ret))))
set_option maxRecDepth 1000000 in
theorem KJ : (Tryz.f83.body.bind fun code => kF Tryz.prog Tryz.f83.ntmps code c_pen_Pen_Check) = some c_pen_Pen_Check.bare := by kernel_rfl
def qM : List R := [.t 2]
theorem KW {ds : List D} {d : D} (hn : Nat.ble ds.length 66 = true) (h : run TSpC gtab 0 c_pen_Pen_Check (retK qM (· = d)) ⟨env0 0 ds, []⟩) : TSp 83 ds d := qn kM c_pen_Pen_Check qM (fn := Tryz.f83) (by kernel_rfl) (by kernel_rfl) KJ (by kernel_rfl) hn h
def c_plane_Of : C := .seq (.reg false [
 ⟨some 1, none, .box true (.t 0), none⟩,
 ⟨some 2, none, .mv false (.c .nil), none⟩] (some [1])) (
.seq (.reg false [
 ⟨some 10, none, .ld (some 3) (.t 1), none⟩,
 ⟨some 11, none, .call false 10 [.t 10], none⟩,
 ⟨some 9, none, .mv false (.t 11), none⟩,
 ⟨some 12, none, .ext (.t 9) 0, none⟩,
 ⟨some 13, none, .ext (.t 9) 1, none⟩,
 ⟨some 3, none, .mv false (.t 12), none⟩,
 ⟨some 4, none, .mv false (.t 13), none⟩] (some [1, 3, 4])) (
.seq (.reg false [
 ⟨some 14, none, .mv false (.t 3), none⟩,
 ⟨some 15, none, .mv false (.t 4), none⟩,
 ⟨some 16, none, .ld (some 3) (.t 1), none⟩,
 ⟨some 17, none, .bld [(.int .i64 0), (.int .i64 0), (.ls 1 []), (.ls 1 []), (.int .i64 0), (.int .i64 0), (.ls 1 [])] [(0, none, (.t 14)), (1, none, (.t 15)), (4, (some 3), (.t 16))], none⟩,
 ⟨some 18, none, .box true (.t 17), none⟩,
 ⟨some 5, none, .mv false (.t 18), none⟩] (some [1, 3, 4, 5])) (
.seq (.reg false [
 ⟨some 19, none, .mv false (.t 5), none⟩,
 ⟨some 20, none, .mv false (.t 3), none⟩,
 ⟨some 21, none, .mv false (.t 4), none⟩,
 ⟨some 22, none, .bin .mul .i64 (.t 20) (.t 21), none⟩,
 ⟨some 23, none, .mks 51 1 none [(.int .u8 0)] (.c (.int .i64 0)) (.t 22), none⟩,
 ⟨some 24, none, .chk (.t 19), none⟩,
 ⟨some 25, none, .fld 2 (.t 24), none⟩,
 ⟨none, none, .st none (.t 25) (.t 23), none⟩] (some [1, 4, 5])) (
.seq (.seq (.reg false [
 ⟨some 26, none, .mv false (.t 4), none⟩,
 ⟨some 27, none, .mv false (.c (.int .i64 0)), none⟩] (some [1, 5, 26, 27])) (
.blk 0 (
 .loop (
 .seq (.reg false [
 ⟨some 28, none, .bin .lss .i64 (.t 27) (.t 26), none⟩] (some [1, 5, 26, 27, 28])) (
 .seq (.ite (.t 28) (
 .skip) (
 .exit 0)) (
 .seq (.blk 1 (
 .seq (.reg false [
 ⟨some 29, none, .mv false (.t 27), none⟩,
 ⟨some 6, none, .mv false (.t 29), none⟩] (some [1, 5, 6, 26, 27])) (
 .seq (.reg false [
 ⟨some 30, none, .ld (some 3) (.t 1), none⟩,
 ⟨some 31, none, .mv false (.t 6), none⟩,
 ⟨some 32, none, .call false 57 [(.t 30), (.t 31)], none⟩,
 ⟨some 7, none, .mv false (.t 32), none⟩] (some [1, 5, 7, 26, 27])) (
 .seq (.reg false [
 ⟨some 33, none, .mv false (.t 7), none⟩,
 ⟨some 34, none, .len true (.t 33), none⟩,
 ⟨some 35, none, .mv false (.c (.int .i64 0)), none⟩] (some [1, 5, 7, 26, 27, 34, 35])) (
 .blk 2 (
 .loop (
 .seq (.reg false [
 ⟨some 36, none, .bin .lss .i64 (.t 35) (.t 34), none⟩] (some [1, 5, 7, 26, 27, 34, 35, 36])) (
 .seq (.ite (.t 36) (
 .skip) (
 .exit 2)) (
 .seq (.blk 3 (
 .seq (.reg false [
 ⟨some 37, none, .mv false (.t 35), none⟩,
 ⟨some 8, none, .mv false (.t 37), none⟩] (some [1, 5, 7, 8, 26, 27, 34, 35])) (
 .reg true [
 ⟨some 38, none, .mv false (.t 5), none⟩,
 ⟨some 39, none, .mv false (.t 5), none⟩,
 ⟨some 40, none, .chk (.t 39), none⟩,
 ⟨some 41, none, .fld 2 (.t 40), none⟩,
 ⟨some 42, none, .ld none (.t 41), none⟩,
 ⟨some 43, none, .mv false (.t 7), none⟩,
 ⟨some 44, none, .mv false (.t 8), none⟩,
 ⟨some 45, none, .sidx (.t 43) (.t 44), none⟩,
 ⟨some 46, none, .bsl none 51 1 none [.t 45], none⟩,
 ⟨some 47, none, .app 51 1 1 (.t 42) (.t 46), none⟩,
 ⟨some 48, none, .chk (.t 38), none⟩,
 ⟨some 49, none, .fld 2 (.t 48), none⟩,
 ⟨none, none, .st none (.t 49) (.t 47), none⟩] (some [1, 5, 7, 26, 27, 34, 35])))) (
 .reg false [
 ⟨some 50, none, .bin .add .i64 (.t 35) (.c (.int .i64 1)), none⟩,
 ⟨some 35, none, .mv false (.t 50), none⟩] (some [1, 5, 7, 26, 27, 34, 35]))))))))))) (
 .reg false [
 ⟨some 51, none, .bin .add .i64 (.t 27) (.c (.int .i64 1)), none⟩,
 ⟨some 27, none, .mv false (.t 51), none⟩] (some [1, 5, 26, 27])))))))) (
.seq (.reg false [
 ⟨some 52, none, .mv false (.t 5), none⟩,
 ⟨some 53, none, .mv false (.t 5), none⟩,
 ⟨some 54, none, .chk (.t 53), none⟩,
 ⟨some 55, none, .fld 2 (.t 54), none⟩,
 ⟨some 56, none, .ld none (.t 55), none⟩,
 ⟨some 57, none, .len false (.t 56), none⟩,
 ⟨some 58, none, .mks 51 1 none [(.int .u8 0)] (.t 57) (.t 57), none⟩,
 ⟨some 59, none, .chk (.t 52), none⟩,
 ⟨some 60, none, .fld 3 (.t 59), none⟩,
 ⟨none, none, .st none (.t 60) (.t 58), none⟩] (some [5])) (
.seq (.reg true [
 ⟨some 61, none, .mv false (.t 5), none⟩,
 ⟨some 62, none, .chk (.t 61), none⟩,
 ⟨some 63, none, .fld 3 (.t 62), none⟩,
 ⟨some 64, none, .ld none (.t 63), none⟩,
 ⟨some 65, none, .mv false (.t 5), none⟩,
 ⟨some 66, none, .chk (.t 65), none⟩,
 ⟨some 67, none, .fld 2 (.t 66), none⟩,
 ⟨some 68, none, .ld none (.t 67), none⟩,
 ⟨some 69, none, .cpy 51 1 (.t 64) (.t 68), none⟩] (some [5])) (
.seq (.reg false [
 ⟨some 70, none, .mv false (.t 5), none⟩,
 ⟨some 2, none, .mv false (.t 70), none⟩] (some [2])) (
.ret))))))))
set_option maxRecDepth 1000000 in
theorem XC : (Tryz.f84.body.bind fun code => kF Tryz.prog Tryz.f84.ntmps code c_plane_Of) = some c_plane_Of.bare := by kernel_rfl
def vq : List R := [.t 2]
theorem Yw {ds : List D} {d : D} {bx bx' : List Ent} (hn : Nat.ble ds.length 71 = true) (h : run TSpC gtab (j0 bx) c_plane_Of (retG vq (fun d1 bx1 => Rt (j0 bx) bx1 d1 d bx')) ⟨env0 0 ds, bx⟩) : TSpM 84 ds bx d bx' := qI kM c_plane_Of vq (fn := Tryz.f84) (by kernel_rfl) (by kernel_rfl) XC (by kernel_rfl) hn h
def c_plane_Plane_Rect : C := .seq (.reg false [
 ⟨some 2, none, .alloc [(.int .i64 0), (.int .i64 0), (.int .i64 0), (.int .i64 0)], none⟩] (some [0, 2])) (
.seq (.reg true [
 ⟨some 3, none, .mv false (.t 0), none⟩,
 ⟨some 4, none, .chk (.t 3), none⟩,
 ⟨some 5, none, .fld 0 (.t 4), none⟩,
 ⟨some 6, none, .ld none (.t 5), none⟩,
 ⟨some 7, none, .mv false (.t 0), none⟩,
 ⟨some 8, none, .chk (.t 7), none⟩,
 ⟨some 9, none, .fld 1 (.t 8), none⟩,
 ⟨some 10, none, .ld none (.t 9), none⟩,
 ⟨some 11, none, .bld [(.int .i64 0), (.int .i64 0), (.int .i64 0), (.int .i64 0)] [(2, none, (.t 6)), (3, none, (.t 10))], none⟩,
 ⟨none, none, .st (some 4) (.t 2) (.t 11), none⟩] (some [2])) (
.ret))
set_option maxRecDepth 1000000 in
theorem y5 : (Tryz.f85.body.bind fun code => kF Tryz.prog Tryz.f85.ntmps code c_plane_Plane_Rect) = some c_plane_Plane_Rect.bare := by kernel_rfl
def vn : List R := [.cell 2 (some 4)]
theorem Jh {ds : List D} {d : D} {bx bx' : List Ent} (hn : Nat.ble ds.length 12 = true) (h : run TSpC gtab (j0 bx) c_plane_Plane_Rect (retG vn (fun d1 bx1 => Rt (j0 bx) bx1 d1 d bx')) ⟨env0 0 ds, bx⟩) : TSpM 85 ds bx d bx' := qI kM c_plane_Plane_Rect vn (fn := Tryz.f85) (by kernel_rfl) (by kernel_rfl) y5 (by kernel_rfl) hn h
def c_plane_Plane_Was : C := .seq (.reg false [
 ⟨some 6, none, .mv false (.c (.int .u8 0)), none⟩] (some [0, 1, 2])) (
.seq (.reg true [
 ⟨some 7, none, .mv false (.t 0), none⟩,
 ⟨some 8, none, .chk (.t 7), none⟩,
 ⟨some 9, none, .fld 2 (.t 8), none⟩,
 ⟨some 10, none, .ld none (.t 9), none⟩,
 ⟨some 11, none, .mv false (.t 2), none⟩,
 ⟨some 12, none, .mv false (.t 0), none⟩,
 ⟨some 13, none, .chk (.t 12), none⟩,
 ⟨some 14, none, .fld 0 (.t 13), none⟩,
 ⟨some 15, none, .ld none (.t 14), none⟩,
 ⟨some 16, none, .bin .mul .i64 (.t 11) (.t 15), none⟩,
 ⟨some 17, none, .mv false (.t 1), none⟩,
 ⟨some 18, none, .bin .add .i64 (.t 16) (.t 17), none⟩,
 ⟨some 19, none, .ixs 1 (.t 10) (.t 18), none⟩,
 ⟨some 20, none, .ld none (.t 19), none⟩,
 ⟨some 6, none, .mv false (.t 20), none⟩] (some [6])) (
.ret))
set_option maxRecDepth 1000000 in
theorem JM : (Tryz.f88.body.bind fun code => kF Tryz.prog Tryz.f88.ntmps code c_plane_Plane_Was) = some c_plane_Plane_Was.bare := by kernel_rfl
def zD : List R := [.t 6]
theorem J7 {ds : List D} {d : D} {bx bx' : List Ent} (hn : Nat.ble ds.length 21 = true) (h : run TSpC gtab (j0 bx) c_plane_Plane_Was (retG zD (fun d1 bx1 => Rt (j0 bx) bx1 d1 d bx')) ⟨env0 0 ds, bx⟩) : TSpM 88 ds bx d bx' := qI kM c_plane_Plane_Was zD (fn := Tryz.f88) (by kernel_rfl) (by kernel_rfl) JM (by kernel_rfl) hn h
def c_plane_Plane_Grid : C := .seq (.reg false [
 ⟨some 2, none, .alloc [(.int .i64 0), (.int .i64 0), (.ls 1 [])], none⟩] (some [0, 2])) (
.seq (.reg false [
 ⟨some 6, none, .mv false (.t 0), none⟩,
 ⟨some 7, none, .chk (.t 6), none⟩,
 ⟨some 8, none, .fld 4 (.t 7), none⟩,
 ⟨some 9, none, .ld (some 3) (.t 8), none⟩,
 ⟨some 3, none, .alloc [(.int .i64 0), (.int .i64 0), (.ls 1 [])], none⟩,
 ⟨none, none, .st (some 3) (.t 3) (.t 9), none⟩] (some [0, 2, 3])) (
.seq (.seq (.reg false [
 ⟨some 10, none, .mv false (.t 0), none⟩,
 ⟨some 11, none, .call false 144 [.t 10], none⟩,
 ⟨some 12, none, .len false (.t 11), none⟩,
 ⟨some 13, none, .mv false (.c (.int .i64 0)), none⟩] (some [2, 3, 11, 12, 13])) (
.blk 0 (
 .loop (
 .seq (.reg false [
 ⟨some 14, none, .bin .lss .i64 (.t 13) (.t 12), none⟩] (some [2, 3, 11, 12, 13, 14])) (
 .seq (.ite (.t 14) (
 .skip) (
 .exit 0)) (
 .seq (.blk 1 (
 .seq (.reg false [
 ⟨some 15, none, .mv false (.t 13), none⟩,
 ⟨some 16, none, .ixs 1 (.t 11) (.t 13), none⟩,
 ⟨some 17, none, .ld none (.t 16), none⟩,
 ⟨some 4, none, .mv false (.t 15), none⟩,
 ⟨some 5, none, .mv false (.t 17), none⟩] (some [2, 3, 4, 5, 11, 12, 13])) (
 .seq (.reg false [
 ⟨some 18, none, .mv false (.t 5), none⟩,
 ⟨some 19, none, .len false (.t 18), none⟩,
 ⟨some 20, none, .bin .gtr .i64 (.t 19) (.c (.int .i64 0)), none⟩] (some [2, 3, 4, 5, 11, 12, 13, 20])) (
 .ite (.t 20) (
 .reg true [
 ⟨some 21, none, .ld (some 3) (.t 3), none⟩,
 ⟨some 22, none, .mv false (.t 5), none⟩,
 ⟨some 23, none, .call false 11 [.t 22], none⟩,
 ⟨some 24, none, .mv false (.t 4), none⟩,
 ⟨some 25, none, .conv .u8 (.t 24), none⟩,
 ⟨some 26, none, .call false 113 [(.t 21), (.t 23), (.t 25)], none⟩,
 ⟨none, none, .st (some 3) (.t 3) (.t 26), none⟩] (some [2, 3, 11, 12, 13])) (
 .skip))))) (
 .reg false [
 ⟨some 27, none, .bin .add .i64 (.t 13) (.c (.int .i64 1)), none⟩,
 ⟨some 13, none, .mv false (.t 27), none⟩] (some [2, 3, 11, 12, 13])))))))) (
.seq (.reg false [
 ⟨some 28, none, .ld (some 3) (.t 3), none⟩,
 ⟨none, none, .st (some 3) (.t 2) (.t 28), none⟩] (some [2])) (
.ret))))
set_option maxRecDepth 1000000 in
theorem y6 : (Tryz.f89.body.bind fun code => kF Tryz.prog Tryz.f89.ntmps code c_plane_Plane_Grid) = some c_plane_Plane_Grid.bare := by kernel_rfl
def ql : List R := [.cell 2 (some 3)]
theorem Ji {ds : List D} {d : D} {bx bx' : List Ent} (hn : Nat.ble ds.length 29 = true) (h : run TSpC gtab (j0 bx) c_plane_Plane_Grid (retG ql (fun d1 bx1 => Rt (j0 bx) bx1 d1 d bx')) ⟨env0 0 ds, bx⟩) : TSpM 89 ds bx d bx' := qI kM c_plane_Plane_Grid ql (fn := Tryz.f89) (by kernel_rfl) (by kernel_rfl) y6 (by kernel_rfl) hn h
def c_grid_Grid_Fill : C := .seq (.reg false [
 ⟨some 3, none, .box true (.t 0), none⟩,
 ⟨some 4, none, .box true (.t 1), none⟩,
 ⟨some 5, none, .box false (.t 2), none⟩,
 ⟨some 6, none, .alloc [(.int .i64 0), (.int .i64 0), (.ls 1 [])], none⟩] (some [3, 4, 5, 6])) (
.seq (.reg false [
 ⟨some 8, none, .ld (some 3) (.t 3), none⟩,
 ⟨some 9, none, .call true 78 [.t 8], none⟩,
 ⟨some 7, none, .alloc [(.int .i64 0), (.int .i64 0), (.ls 1 [])], none⟩,
 ⟨none, none, .st (some 3) (.t 7) (.t 9), none⟩] (some [4, 5, 6, 7])) (
.seq (.reg false [
 ⟨some 10, none, .ld (some 3) (.t 7), none⟩,
 ⟨some 11, none, .ld (some 1) (.t 4), none⟩,
 ⟨some 12, none, .clo 163 [(.t 5), (.t 7)], none⟩,
 ⟨some 13, none, .call true 79 [(.t 10), (.t 11), (.t 12)], none⟩] (some [6, 7])) (
.seq (.reg false [
 ⟨some 14, none, .ld (some 3) (.t 7), none⟩,
 ⟨none, none, .st (some 3) (.t 6) (.t 14), none⟩] (some [6])) (
.ret))))
set_option maxRecDepth 1000000 in
theorem Kh : (Tryz.f113.body.bind fun code => kF Tryz.prog Tryz.f113.ntmps code c_grid_Grid_Fill) = some c_grid_Grid_Fill.bare := by kernel_rfl
def zm : List R := [.cell 6 (some 3)]
theorem Kr {ds : List D} {d : D} (hn : Nat.ble ds.length 15 = true) (h : run TSpC gtab 0 c_grid_Grid_Fill (retK zm (· = d)) ⟨env0 0 ds, []⟩) : TSp 113 ds d := qn kM c_grid_Grid_Fill zm (fn := Tryz.f113) (by kernel_rfl) (by kernel_rfl) Kh (by kernel_rfl) hn h
def c_band_fits : C := .seq (.reg false [
 ⟨some 4, none, .mv false (.c (.bool false)), none⟩] (some [0, 1])) (
.seq (.reg false [
 ⟨some 5, none, .mv false (.t 0), none⟩,
 ⟨some 6, none, .bin .geq .i64 (.t 5) (.c (.int .i64 (-1048576))), none⟩,
 ⟨some 7, none, .mv false (.t 6), none⟩,
 ⟨some 8, some (7, true), .mv false (.t 1), none⟩,
 ⟨some 9, some (7, true), .bin .gtr .i64 (.t 8) (.c (.int .i64 0)), none⟩,
 ⟨some 10, none, .pick (.t 7) (.t 9) (.c (.bool false)), none⟩,
 ⟨some 11, none, .mv false (.t 10), none⟩,
 ⟨some 12, some (11, true), .mv false (.t 1), none⟩,
 ⟨some 13, some (11, true), .mv false (.t 0), none⟩,
 ⟨some 14, some (11, true), .bin .sub .i64 (.c (.int .i64 1048576)) (.t 13), none⟩,
 ⟨some 15, some (11, true), .bin .leq .i64 (.t 12) (.t 14), none⟩,
 ⟨some 16, none, .pick (.t 11) (.t 15) (.c (.bool false)), none⟩,
 ⟨some 4, none, .mv false (.t 16), none⟩] (some [4])) (
.ret))
set_option maxRecDepth 1000000 in
theorem Xf : (Tryz.f121.body.bind fun code => kF Tryz.prog Tryz.f121.ntmps code c_band_fits) = some c_band_fits.bare := by kernel_rfl
def Ju : List R := [.t 4]
theorem Xu {ds : List D} {d : D} (hn : Nat.ble ds.length 17 = true) (h : run TSpC gtab 0 c_band_fits (retK Ju (· = d)) ⟨env0 0 ds, []⟩) : TSp 121 ds d := qn kM c_band_fits Ju (fn := Tryz.f121) (by kernel_rfl) (by kernel_rfl) Xf (by kernel_rfl) hn h
def c_slices_IndexFunc_api_Rect_api_Rect : C := .seq (.reg false [
 ⟨some 4, none, .mv false (.c (.int .i64 0)), none⟩] (some [0, 1])) (
.seq (.seq (.reg false [
 ⟨some 6, none, .mv false (.t 0), none⟩,
 ⟨some 7, none, .len false (.t 6), none⟩,
 ⟨some 8, none, .mv false (.c (.int .i64 0)), none⟩] (some [0, 1, 7, 8])) (
.blk 0 (
 .loop (
 .seq (.reg false [
 ⟨some 9, none, .bin .lss .i64 (.t 8) (.t 7), none⟩] (some [0, 1, 7, 8, 9])) (
 .seq (.ite (.t 9) (
 .skip) (
 .exit 0)) (
 .seq (.blk 1 (
 .seq (.reg false [
 ⟨some 10, none, .mv false (.t 8), none⟩,
 ⟨some 5, none, .mv false (.t 10), none⟩] (some [0, 1, 5, 7, 8])) (
 .seq (.reg false [
 ⟨some 11, none, .mv false (.t 1), none⟩,
 ⟨some 12, none, .mv false (.t 0), none⟩,
 ⟨some 13, none, .mv false (.t 5), none⟩,
 ⟨some 14, none, .ixs 4 (.t 12) (.t 13), none⟩,
 ⟨some 15, none, .ld (some 4) (.t 14), none⟩,
 ⟨some 16, none, .callv false (.t 11) [.t 15], none⟩] (some [0, 1, 5, 7, 8, 16])) (
 .ite (.t 16) (
 .seq (.reg false [
 ⟨some 17, none, .mv false (.t 5), none⟩,
 ⟨some 4, none, .mv false (.t 17), none⟩] (some [4])) (
 .ret)) (
 .skip))))) (
 .reg false [
 ⟨some 18, none, .bin .add .i64 (.t 8) (.c (.int .i64 1)), none⟩,
 ⟨some 8, none, .mv false (.t 18), none⟩] (some [0, 1, 7, 8])))))))) (
.seq (.reg false [
 ⟨some 4, none, .mv false (.c (.int .i64 (-1))), none⟩] (some [4])) (
.ret)))
set_option maxRecDepth 1000000 in
theorem zI : (Tryz.f127.body.bind fun code => kF Tryz.prog Tryz.f127.ntmps code c_slices_IndexFunc_api_Rect_api_Rect) = some c_slices_IndexFunc_api_Rect_api_Rect.bare := by kernel_rfl
def kL : List R := [.t 4]
theorem zK {ds : List D} {d : D} {bx bx' : List Ent} (hn : Nat.ble ds.length 19 = true) (h : run TSpC gtab (j0 bx) c_slices_IndexFunc_api_Rect_api_Rect (retG kL (fun d1 bx1 => Rt (j0 bx) bx1 d1 d bx')) ⟨env0 0 ds, bx⟩) : TSpM 127 ds bx d bx' := qI kM c_slices_IndexFunc_api_Rect_api_Rect kL (fn := Tryz.f127) (by kernel_rfl) (by kernel_rfl) zI (by kernel_rfl) hn h
def c_band_spans_1 : C := .seq (.reg false [
 ⟨some 3, none, .mv false (.c (.int .i64 0)), none⟩] (some [0, 1, 3])) (
.blk 0 (
 .loop (
 .seq (.seq (.reg false [
 ⟨some 5, none, .mv false (.t 3), none⟩,
 ⟨some 6, none, .ld none (.t 1), none⟩,
 ⟨some 7, none, .len false (.t 6), none⟩,
 ⟨some 8, none, .bin .lss .i64 (.t 5) (.t 7), none⟩] (some [0, 1, 3, 8])) (
 .ite (.t 8) (
 .skip) (
 .exit 0))) (
 .blk 1 (
 .seq (.reg true [
 ⟨some 9, none, .ld none (.t 1), some [7]⟩,
 ⟨some 10, none, .mv false (.t 3), none⟩,
 ⟨some 11, none, .ixs 4 (.t 9) (.t 10), some [4]⟩,
 ⟨some 12, none, .fld 0 (.t 11), none⟩,
 ⟨some 13, none, .ld none (.t 12), some [4]⟩,
 ⟨some 14, none, .ld none (.t 1), some [7]⟩,
 ⟨some 15, none, .mv false (.t 3), none⟩,
 ⟨some 16, none, .ixs 4 (.t 14) (.t 15), some [4]⟩,
 ⟨some 17, none, .fld 0 (.t 16), none⟩,
 ⟨some 18, none, .ld none (.t 17), some [4]⟩,
 ⟨some 19, none, .ld none (.t 1), some [7]⟩,
 ⟨some 20, none, .mv false (.t 3), none⟩,
 ⟨some 21, none, .ixs 4 (.t 19) (.t 20), some [4]⟩,
 ⟨some 22, none, .fld 2 (.t 21), none⟩,
 ⟨some 23, none, .ld none (.t 22), some [4]⟩,
 ⟨some 24, none, .bin .add .i64 (.t 18) (.t 23), none⟩,
 ⟨some 25, none, .bld [(.int .i64 0), (.int .i64 0)] [(0, none, (.t 13)), (1, none, (.t 24))], none⟩,
 ⟨some 4, none, .alloc [(.int .i64 0), (.int .i64 0)], some [9]⟩,
 ⟨none, none, .st (some 2) (.t 4) (.t 25), some [9]⟩] (some [0, 1, 3, 4])) (
 .seq (.seq (.reg false [
 ⟨some 26, none, .mv false (.t 3), none⟩,
 ⟨some 27, none, .bin .add .i64 (.t 26) (.c (.int .i64 1)), none⟩,
 ⟨some 3, none, .mv false (.t 27), none⟩] (some [0, 1, 3, 4])) (
 .blk 2 (
 .loop (
 .seq (.seq (.reg true [
 ⟨some 28, none, .mv false (.t 3), none⟩,
 ⟨some 29, none, .ld none (.t 1), none⟩,
 ⟨some 30, none, .len false (.t 29), none⟩,
 ⟨some 31, none, .bin .lss .i64 (.t 28) (.t 30), none⟩,
 ⟨some 32, none, .mv false (.t 31), none⟩,
 ⟨some 33, some (32, true), .ld none (.t 1), none⟩,
 ⟨some 34, some (32, true), .mv false (.t 3), none⟩,
 ⟨some 35, some (32, true), .ixs 4 (.t 33) (.t 34), none⟩,
 ⟨some 36, some (32, true), .fld 0 (.t 35), none⟩,
 ⟨some 37, some (32, true), .ld none (.t 36), none⟩,
 ⟨some 38, some (32, true), .fld 1 (.t 4), none⟩,
 ⟨some 39, some (32, true), .ld none (.t 38), none⟩,
 ⟨some 40, some (32, true), .bin .leq .i64 (.t 37) (.t 39), none⟩,
 ⟨some 41, none, .pick (.t 32) (.t 40) (.c (.bool false)), none⟩] (some [0, 1, 3, 4, 41])) (
 .ite (.t 41) (
 .skip) (
 .exit 2))) (
 .seq (.blk 3 (
 .reg true [
 ⟨some 44, none, .fld 1 (.t 4), none⟩,
 ⟨some 45, none, .ld none (.t 44), none⟩,
 ⟨some 46, none, .ld none (.t 1), none⟩,
 ⟨some 47, none, .mv false (.t 3), none⟩,
 ⟨some 48, none, .ixs 4 (.t 46) (.t 47), none⟩,
 ⟨some 49, none, .fld 0 (.t 48), none⟩,
 ⟨some 50, none, .ld none (.t 49), none⟩,
 ⟨some 51, none, .ld none (.t 1), none⟩,
 ⟨some 52, none, .mv false (.t 3), none⟩,
 ⟨some 53, none, .ixs 4 (.t 51) (.t 52), none⟩,
 ⟨some 54, none, .fld 2 (.t 53), none⟩,
 ⟨some 55, none, .ld none (.t 54), none⟩,
 ⟨some 56, none, .bin .add .i64 (.t 50) (.t 55), none⟩,
 ⟨some 57, none, .mx (.t 45) (.t 56), none⟩,
 ⟨some 58, none, .fld 1 (.t 4), none⟩,
 ⟨none, none, .st none (.t 58) (.t 57), none⟩] (some [0, 1, 3, 4]))) (
 .reg false [
 ⟨some 42, none, .mv false (.t 3), none⟩,
 ⟨some 43, none, .bin .add .i64 (.t 42) (.c (.int .i64 1)), none⟩,
 ⟨some 3, none, .mv false (.t 43), none⟩] (some [0, 1, 3, 4]))))))) (
 .seq (.reg false [
 ⟨some 59, none, .mv false (.t 0), none⟩,
 ⟨some 60, none, .ld (some 2) (.t 4), none⟩,
 ⟨some 61, none, .prm false true (.yld [154]) [(.t 59), (.t 60)], none⟩,
 ⟨some 62, none, .not (.t 61), none⟩] (some [0, 1, 3, 62])) (
 .ite (.t 62) (
 .ret) (
 .skip)))))))))
set_option maxRecDepth 1000000 in
theorem QD : (Tryz.f128.body.bind fun code => kF Tryz.prog Tryz.f128.ntmps code c_band_spans_1) = some c_band_spans_1.bare := by kernel_rfl
def qe : List R := []
def c_slices_EqualFunc_api_Rect_api_Rect_api_Rect_api_Rect : C := .seq (.reg false [
 ⟨some 6, none, .mv false (.c (.bool false)), none⟩] (some [0, 1, 2])) (
.seq (.seq (.reg false [
 ⟨some 10, none, .mv false (.t 0), none⟩,
 ⟨some 11, none, .len false (.t 10), none⟩,
 ⟨some 12, none, .mv false (.t 1), none⟩,
 ⟨some 13, none, .len false (.t 12), none⟩,
 ⟨some 14, none, .bin .neq .i64 (.t 11) (.t 13), none⟩] (some [0, 1, 2, 14])) (
.ite (.t 14) (
 .seq (.reg false [
 ⟨some 6, none, .mv false (.c (.bool false)), none⟩] (some [6])) (
 .ret)) (
 .skip))) (
.seq (.seq (.reg false [
 ⟨some 15, none, .mv false (.t 0), none⟩,
 ⟨some 16, none, .len false (.t 15), none⟩,
 ⟨some 17, none, .mv false (.c (.int .i64 0)), none⟩] (some [1, 2, 15, 16, 17])) (
.blk 0 (
 .loop (
 .seq (.reg false [
 ⟨some 18, none, .bin .lss .i64 (.t 17) (.t 16), none⟩] (some [1, 2, 15, 16, 17, 18])) (
 .seq (.ite (.t 18) (
 .skip) (
 .exit 0)) (
 .seq (.blk 1 (
 .seq (.reg false [
 ⟨some 19, none, .mv false (.t 17), none⟩,
 ⟨some 20, none, .ixs 4 (.t 15) (.t 17), none⟩,
 ⟨some 21, none, .ld (some 4) (.t 20), none⟩,
 ⟨some 8, none, .alloc [(.int .i64 0), (.int .i64 0), (.int .i64 0), (.int .i64 0)], none⟩,
 ⟨some 7, none, .mv false (.t 19), none⟩,
 ⟨none, none, .st (some 4) (.t 8) (.t 21), none⟩] (some [1, 2, 7, 8, 15, 16, 17])) (
 .seq (.reg false [
 ⟨some 22, none, .mv false (.t 1), none⟩,
 ⟨some 23, none, .mv false (.t 7), none⟩,
 ⟨some 24, none, .ixs 4 (.t 22) (.t 23), none⟩,
 ⟨some 25, none, .ld (some 4) (.t 24), none⟩,
 ⟨some 9, none, .alloc [(.int .i64 0), (.int .i64 0), (.int .i64 0), (.int .i64 0)], none⟩,
 ⟨none, none, .st (some 4) (.t 9) (.t 25), none⟩] (some [1, 2, 8, 9, 15, 16, 17])) (
 .seq (.reg false [
 ⟨some 26, none, .mv false (.t 2), none⟩,
 ⟨some 27, none, .ld (some 4) (.t 8), none⟩,
 ⟨some 28, none, .ld (some 4) (.t 9), none⟩,
 ⟨some 29, none, .callv false (.t 26) [(.t 27), (.t 28)], none⟩,
 ⟨some 30, none, .not (.t 29), none⟩] (some [1, 2, 15, 16, 17, 30])) (
 .ite (.t 30) (
 .seq (.reg false [
 ⟨some 6, none, .mv false (.c (.bool false)), none⟩] (some [6])) (
 .ret)) (
 .skip)))))) (
 .reg false [
 ⟨some 31, none, .bin .add .i64 (.t 17) (.c (.int .i64 1)), none⟩,
 ⟨some 17, none, .mv false (.t 31), none⟩] (some [1, 2, 15, 16, 17])))))))) (
.seq (.reg false [
 ⟨some 6, none, .mv false (.c (.bool true)), none⟩] (some [6])) (
.ret))))
set_option maxRecDepth 1000000 in
theorem qG : (Tryz.f129.body.bind fun code => kF Tryz.prog Tryz.f129.ntmps code c_slices_EqualFunc_api_Rect_api_Rect_api_Rect_api_Rect) = some c_slices_EqualFunc_api_Rect_api_Rect_api_Rect_api_Rect.bare := by kernel_rfl
def ku : List R := [.t 6]
theorem qa {ds : List D} {d : D} (hn : Nat.ble ds.length 32 = true) (h : run TSpC gtab 0 c_slices_EqualFunc_api_Rect_api_Rect_api_Rect_api_Rect (retK ku (· = d)) ⟨env0 0 ds, []⟩) : TSp 129 ds d := qn kM c_slices_EqualFunc_api_Rect_api_Rect_api_Rect_api_Rect ku (fn := Tryz.f129) (by kernel_rfl) (by kernel_rfl) qG (by kernel_rfl) hn h
def c_band_alike_1 : C := .seq (.reg false [
 ⟨some 2, none, .box true (.t 0), none⟩,
 ⟨some 3, none, .box true (.t 1), none⟩,
 ⟨some 4, none, .mv false (.c (.bool false)), none⟩] (some [2, 3])) (
.seq (.reg false [
 ⟨some 5, none, .fld 0 (.t 2), none⟩,
 ⟨some 6, none, .ld none (.t 5), none⟩,
 ⟨some 7, none, .fld 0 (.t 3), none⟩,
 ⟨some 8, none, .ld none (.t 7), none⟩,
 ⟨some 9, none, .bin .eql .i64 (.t 6) (.t 8), none⟩,
 ⟨some 10, none, .mv false (.t 9), none⟩,
 ⟨some 11, some (10, true), .fld 2 (.t 2), none⟩,
 ⟨some 12, some (10, true), .ld none (.t 11), none⟩,
 ⟨some 13, some (10, true), .fld 2 (.t 3), none⟩,
 ⟨some 14, some (10, true), .ld none (.t 13), none⟩,
 ⟨some 15, some (10, true), .bin .eql .i64 (.t 12) (.t 14), none⟩,
 ⟨some 16, none, .pick (.t 10) (.t 15) (.c (.bool false)), none⟩,
 ⟨some 17, none, .mv false (.t 16), none⟩,
 ⟨some 18, some (17, true), .fld 1 (.t 2), none⟩,
 ⟨some 19, some (17, true), .ld none (.t 18), none⟩,
 ⟨some 20, some (17, true), .fld 3 (.t 2), none⟩,
 ⟨some 21, some (17, true), .ld none (.t 20), none⟩,
 ⟨some 22, some (17, true), .bin .add .i64 (.t 19) (.t 21), none⟩,
 ⟨some 23, some (17, true), .fld 1 (.t 3), none⟩,
 ⟨some 24, some (17, true), .ld none (.t 23), none⟩,
 ⟨some 25, some (17, true), .bin .eql .i64 (.t 22) (.t 24), none⟩,
 ⟨some 26, none, .pick (.t 17) (.t 25) (.c (.bool false)), none⟩,
 ⟨some 4, none, .mv false (.t 26), none⟩] (some [4])) (
.ret))
set_option maxRecDepth 1000000 in
theorem QE : (Tryz.f130.body.bind fun code => kF Tryz.prog Tryz.f130.ntmps code c_band_alike_1) = some c_band_alike_1.bare := by kernel_rfl
def xO : List R := [.t 4]
theorem QT {ds : List D} {d : D} (hn : Nat.ble ds.length 27 = true) (h : run TSpC gtab 0 c_band_alike_1 (retK xO (· = d)) ⟨env0 0 ds, []⟩) : TSp 130 ds d := qn kM c_band_alike_1 xO (fn := Tryz.f130) (by kernel_rfl) (by kernel_rfl) QE (by kernel_rfl) hn h
def c_region_cuts : C := .seq (.reg false [
 ⟨some 4, none, .nilS 3 1, none⟩] (some [0, 1])) (
.seq (.reg false [
 ⟨some 5, none, .nilS 3 1, none⟩] (some [0, 1, 5])) (
.seq (.seq (.reg false [
 ⟨some 12, none, .mv false (.t 1), none⟩,
 ⟨some 13, none, .len false (.t 12), none⟩,
 ⟨some 14, none, .mv false (.c (.int .i64 0)), none⟩] (some [0, 5, 12, 13, 14])) (
.blk 0 (
 .loop (
 .seq (.reg false [
 ⟨some 15, none, .bin .lss .i64 (.t 14) (.t 13), none⟩] (some [0, 5, 12, 13, 14, 15])) (
 .seq (.ite (.t 15) (
 .skip) (
 .exit 0)) (
 .seq (.blk 1 (
 .seq (.reg false [
 ⟨some 16, none, .ixs 1 (.t 12) (.t 14), none⟩,
 ⟨some 17, none, .ld none (.t 16), none⟩,
 ⟨some 7, none, .mv false (.t 17), none⟩] (some [0, 5, 7, 12, 13, 14])) (
 .seq (.reg false [
 ⟨some 18, none, .mv false (.t 7), none⟩,
 ⟨some 19, none, .len false (.t 18), none⟩,
 ⟨some 20, none, .mv false (.c (.int .i64 0)), none⟩] (some [0, 5, 12, 13, 14, 18, 19, 20])) (
 .blk 2 (
 .loop (
 .seq (.reg false [
 ⟨some 21, none, .bin .lss .i64 (.t 20) (.t 19), none⟩] (some [0, 5, 12, 13, 14, 18, 19, 20, 21])) (
 .seq (.ite (.t 21) (
 .skip) (
 .exit 2)) (
 .seq (.blk 3 (
 .seq (.reg false [
 ⟨some 22, none, .ixs 4 (.t 18) (.t 20), none⟩,
 ⟨some 23, none, .ld (some 4) (.t 22), none⟩,
 ⟨some 9, none, .alloc [(.int .i64 0), (.int .i64 0), (.int .i64 0), (.int .i64 0)], none⟩,
 ⟨none, none, .st (some 4) (.t 9) (.t 23), none⟩] (some [0, 5, 9, 12, 13, 14, 18, 19, 20])) (
 .seq (.reg false [
 ⟨some 25, none, .mv false (.t 0), none⟩,
 ⟨some 26, none, .ld (some 4) (.t 9), none⟩,
 ⟨some 27, none, .callv false (.t 25) [.t 26], none⟩,
 ⟨some 24, none, .mv false (.t 27), none⟩,
 ⟨some 28, none, .ext (.t 24) 0, none⟩,
 ⟨some 29, none, .ext (.t 24) 1, none⟩,
 ⟨some 10, none, .mv false (.t 28), none⟩,
 ⟨some 11, none, .mv false (.t 29), none⟩] (some [0, 5, 10, 11, 12, 13, 14, 18, 19, 20])) (
 .reg false [
 ⟨some 30, none, .mv false (.t 5), none⟩,
 ⟨some 31, none, .mv false (.t 10), none⟩,
 ⟨some 32, none, .mv false (.t 10), none⟩,
 ⟨some 33, none, .mv false (.t 11), none⟩,
 ⟨some 34, none, .bin .add .i64 (.t 32) (.t 33), none⟩,
 ⟨some 35, none, .bsl none 3 1 none [(.t 31), (.t 34)], none⟩,
 ⟨some 36, none, .app 3 1 8 (.t 30) (.t 35), none⟩,
 ⟨some 5, none, .mv false (.t 36), none⟩] (some [0, 5, 12, 13, 14, 18, 19, 20]))))) (
 .reg false [
 ⟨some 37, none, .bin .add .i64 (.t 20) (.c (.int .i64 1)), none⟩,
 ⟨some 20, none, .mv false (.t 37), none⟩] (some [0, 5, 12, 13, 14, 18, 19, 20])))))))))) (
 .reg false [
 ⟨some 38, none, .bin .add .i64 (.t 14) (.c (.int .i64 1)), none⟩,
 ⟨some 14, none, .mv false (.t 38), none⟩] (some [0, 5, 12, 13, 14])))))))) (
.seq (.reg false [
 ⟨some 39, none, .mv false (.t 5), none⟩,
 ⟨some 40, none, .call true 125 [.t 39], none⟩] (some [5])) (
.seq (.reg false [
 ⟨some 41, none, .mv false (.t 5), none⟩,
 ⟨some 42, none, .call true 126 [.t 41], none⟩,
 ⟨some 4, none, .mv false (.t 42), none⟩] (some [4])) (
.ret)))))
set_option maxRecDepth 1000000 in
theorem Zc : (Tryz.f131.body.bind fun code => kF Tryz.prog Tryz.f131.ntmps code c_region_cuts) = some c_region_cuts.bare := by kernel_rfl
def qy : List R := [.t 4]
theorem ZG {ds : List D} {d : D} (hn : Nat.ble ds.length 43 = true) (h : run TSpC gtab 0 c_region_cuts (retK qy (· = d)) ⟨env0 0 ds, []⟩) : TSp 131 ds d := qn kM c_region_cuts qy (fn := Tryz.f131) (by kernel_rfl) (by kernel_rfl) Zc (by kernel_rfl) hn h
def c_region_rule_join_1 : C := .seq (.reg false [
 ⟨some 1, none, .box true (.t 0), none⟩,
 ⟨some 2, none, .mv false (.c (.int .i64 0)), none⟩,
 ⟨some 3, none, .mv false (.c (.int .i64 0)), none⟩] (some [1])) (
.seq (.reg true [
 ⟨some 4, none, .fld 1 (.t 1), none⟩,
 ⟨some 5, none, .ld none (.t 4), none⟩,
 ⟨some 6, none, .fld 3 (.t 1), none⟩,
 ⟨some 7, none, .ld none (.t 6), none⟩,
 ⟨some 2, none, .mv false (.t 5), none⟩,
 ⟨some 3, none, .mv false (.t 7), none⟩] (some [2, 3])) (
.ret))
set_option maxRecDepth 1000000 in
theorem yv : (Tryz.f132.body.bind fun code => kF Tryz.prog Tryz.f132.ntmps code c_region_rule_join_1) = some c_region_rule_join_1.bare := by kernel_rfl
def zN : List R := [.t 2, .t 3]
theorem yA {ds : List D} {d : D} (hn : Nat.ble ds.length 8 = true) (h : run TSpC gtab 0 c_region_rule_join_1 (retK zN (· = d)) ⟨env0 0 ds, []⟩) : TSp 132 ds d := qn kM c_region_rule_join_1 zN (fn := Tryz.f132) (by kernel_rfl) (by kernel_rfl) yv (by kernel_rfl) hn h
def c_region_walk_row : C := .seq (.reg false [
 ⟨some 4, none, .nilS 45 4, none⟩] (some [0, 1])) (
.seq (.blk 0 (
 .loop (
 .seq (.seq (.reg true [
 ⟨some 6, none, .mv false (.t 0), none⟩,
 ⟨some 7, none, .chk (.t 6), none⟩,
 ⟨some 8, none, .fld 0 (.t 7), none⟩,
 ⟨some 9, none, .ld none (.t 8), none⟩,
 ⟨some 10, none, .len false (.t 9), none⟩,
 ⟨some 11, none, .bin .gtr .i64 (.t 10) (.c (.int .i64 0)), none⟩,
 ⟨some 12, none, .mv false (.t 11), none⟩,
 ⟨some 13, some (12, true), .mv false (.t 0), none⟩,
 ⟨some 14, some (12, true), .chk (.t 13), none⟩,
 ⟨some 15, some (12, true), .fld 0 (.t 14), none⟩,
 ⟨some 16, some (12, true), .ld none (.t 15), none⟩,
 ⟨some 17, some (12, true), .ixs 4 (.t 16) (.c (.int .i64 0)), none⟩,
 ⟨some 18, some (12, true), .fld 1 (.t 17), none⟩,
 ⟨some 19, some (12, true), .ld none (.t 18), none⟩,
 ⟨some 20, some (12, true), .mv false (.t 0), none⟩,
 ⟨some 21, some (12, true), .chk (.t 20), none⟩,
 ⟨some 22, some (12, true), .fld 0 (.t 21), none⟩,
 ⟨some 23, some (12, true), .ld none (.t 22), none⟩,
 ⟨some 24, some (12, true), .ixs 4 (.t 23) (.c (.int .i64 0)), none⟩,
 ⟨some 25, some (12, true), .fld 3 (.t 24), none⟩,
 ⟨some 26, some (12, true), .ld none (.t 25), none⟩,
 ⟨some 27, some (12, true), .bin .add .i64 (.t 19) (.t 26), none⟩,
 ⟨some 28, some (12, true), .mv false (.t 1), none⟩,
 ⟨some 29, some (12, true), .bin .leq .i64 (.t 27) (.t 28), none⟩,
 ⟨some 30, none, .pick (.t 12) (.t 29) (.c (.bool false)), none⟩] (some [0, 1, 30])) (
 .ite (.t 30) (
 .skip) (
 .exit 0))) (
 .blk 1 (
 .reg false [
 ⟨some 31, none, .mv false (.t 0), none⟩,
 ⟨some 32, none, .mv false (.t 0), none⟩,
 ⟨some 33, none, .chk (.t 32), none⟩,
 ⟨some 34, none, .fld 0 (.t 33), none⟩,
 ⟨some 35, none, .ld none (.t 34), none⟩,
 ⟨some 36, none, .sls false 4 (.t 35) (some (.c (.int .i64 1))) none, none⟩,
 ⟨some 37, none, .chk (.t 31), none⟩,
 ⟨some 38, none, .fld 0 (.t 37), none⟩,
 ⟨none, none, .st none (.t 38) (.t 36), none⟩] (some [0, 1])))))) (
.seq (.reg false [
 ⟨some 5, none, .mv false (.c (.int .i64 0)), none⟩] (some [0, 1, 5])) (
.seq (.blk 2 (
 .loop (
 .seq (.seq (.reg false [
 ⟨some 39, none, .mv false (.t 5), none⟩,
 ⟨some 40, none, .mv false (.t 0), none⟩,
 ⟨some 41, none, .chk (.t 40), none⟩,
 ⟨some 42, none, .fld 0 (.t 41), none⟩,
 ⟨some 43, none, .ld none (.t 42), none⟩,
 ⟨some 44, none, .len false (.t 43), none⟩,
 ⟨some 45, none, .bin .lss .i64 (.t 39) (.t 44), none⟩,
 ⟨some 46, none, .mv false (.t 45), none⟩,
 ⟨some 47, some (46, true), .mv false (.t 0), none⟩,
 ⟨some 48, some (46, true), .chk (.t 47), none⟩,
 ⟨some 49, some (46, true), .fld 0 (.t 48), none⟩,
 ⟨some 50, some (46, true), .ld none (.t 49), none⟩,
 ⟨some 51, some (46, true), .mv false (.t 5), none⟩,
 ⟨some 52, some (46, true), .ixs 4 (.t 50) (.t 51), none⟩,
 ⟨some 53, some (46, true), .fld 1 (.t 52), none⟩,
 ⟨some 54, some (46, true), .ld none (.t 53), none⟩,
 ⟨some 55, some (46, true), .mv false (.t 1), none⟩,
 ⟨some 56, some (46, true), .bin .leq .i64 (.t 54) (.t 55), none⟩,
 ⟨some 57, none, .pick (.t 46) (.t 56) (.c (.bool false)), none⟩] (some [0, 1, 5, 57])) (
 .ite (.t 57) (
 .skip) (
 .exit 2))) (
 .blk 3 (
 .reg false [
 ⟨some 58, none, .mv false (.t 5), none⟩,
 ⟨some 59, none, .bin .add .i64 (.t 58) (.c (.int .i64 1)), none⟩,
 ⟨some 5, none, .mv false (.t 59), none⟩] (some [0, 1, 5])))))) (
.seq (.reg false [
 ⟨some 60, none, .mv false (.t 0), none⟩,
 ⟨some 61, none, .chk (.t 60), none⟩,
 ⟨some 62, none, .fld 0 (.t 61), none⟩,
 ⟨some 63, none, .ld none (.t 62), none⟩,
 ⟨some 64, none, .mv false (.t 5), none⟩,
 ⟨some 65, none, .sls false 4 (.t 63) none (some (.t 64)), none⟩,
 ⟨some 4, none, .mv false (.t 65), none⟩] (some [4])) (
.ret)))))
set_option maxRecDepth 1000000 in
theorem JL : (Tryz.f133.body.bind fun code => kF Tryz.prog Tryz.f133.ntmps code c_region_walk_row) = some c_region_walk_row.bare := by kernel_rfl
def qr : List R := [.t 4]
theorem J6 {ds : List D} {d : D} {bx bx' : List Ent} (hn : Nat.ble ds.length 66 = true) (h : run TSpC gtab (j0 bx) c_region_walk_row (retG qr (fun d1 bx1 => Rt (j0 bx) bx1 d1 d bx')) ⟨env0 0 ds, bx⟩) : TSpM 133 ds bx d bx' := qI kM c_region_walk_row qr (fn := Tryz.f133) (by kernel_rfl) (by kernel_rfl) JL (by kernel_rfl) hn h
def c_region_rule_join_2 : C := .seq (.reg false [
 ⟨some 1, none, .box true (.t 0), none⟩,
 ⟨some 2, none, .mv false (.c (.int .i64 0)), none⟩,
 ⟨some 3, none, .mv false (.c (.int .i64 0)), none⟩] (some [1])) (
.seq (.reg true [
 ⟨some 4, none, .fld 0 (.t 1), none⟩,
 ⟨some 5, none, .ld none (.t 4), none⟩,
 ⟨some 6, none, .fld 2 (.t 1), none⟩,
 ⟨some 7, none, .ld none (.t 6), none⟩,
 ⟨some 2, none, .mv false (.t 5), none⟩,
 ⟨some 3, none, .mv false (.t 7), none⟩] (some [2, 3])) (
.ret))
set_option maxRecDepth 1000000 in
theorem yu : (Tryz.f134.body.bind fun code => kF Tryz.prog Tryz.f134.ntmps code c_region_rule_join_2) = some c_region_rule_join_2.bare := by kernel_rfl
def zM : List R := [.t 2, .t 3]
theorem yz {ds : List D} {d : D} (hn : Nat.ble ds.length 8 = true) (h : run TSpC gtab 0 c_region_rule_join_2 (retK zM (· = d)) ⟨env0 0 ds, []⟩) : TSp 134 ds d := qn kM c_region_rule_join_2 zM (fn := Tryz.f134) (by kernel_rfl) (by kernel_rfl) yu (by kernel_rfl) hn h
def c_region_across : C := .seq (.reg false [
 ⟨some 4, none, .mv false (.c (.bool false)), none⟩] (some [0, 1])) (
.seq (.blk 0 (
 .loop (
 .seq (.seq (.reg true [
 ⟨some 5, none, .mv false (.t 0), none⟩,
 ⟨some 6, none, .chk (.t 5), none⟩,
 ⟨some 7, none, .ld none (.t 6), none⟩,
 ⟨some 8, none, .len false (.t 7), none⟩,
 ⟨some 9, none, .bin .gtr .i64 (.t 8) (.c (.int .i64 0)), none⟩,
 ⟨some 10, none, .mv false (.t 9), none⟩,
 ⟨some 11, some (10, true), .mv false (.t 0), none⟩,
 ⟨some 12, some (10, true), .chk (.t 11), none⟩,
 ⟨some 13, some (10, true), .ld none (.t 12), none⟩,
 ⟨some 14, some (10, true), .ixs 4 (.t 13) (.c (.int .i64 0)), none⟩,
 ⟨some 15, some (10, true), .fld 0 (.t 14), none⟩,
 ⟨some 16, some (10, true), .ld none (.t 15), none⟩,
 ⟨some 17, some (10, true), .mv false (.t 0), none⟩,
 ⟨some 18, some (10, true), .chk (.t 17), none⟩,
 ⟨some 19, some (10, true), .ld none (.t 18), none⟩,
 ⟨some 20, some (10, true), .ixs 4 (.t 19) (.c (.int .i64 0)), none⟩,
 ⟨some 21, some (10, true), .fld 2 (.t 20), none⟩,
 ⟨some 22, some (10, true), .ld none (.t 21), none⟩,
 ⟨some 23, some (10, true), .bin .add .i64 (.t 16) (.t 22), none⟩,
 ⟨some 24, some (10, true), .mv false (.t 1), none⟩,
 ⟨some 25, some (10, true), .bin .leq .i64 (.t 23) (.t 24), none⟩,
 ⟨some 26, none, .pick (.t 10) (.t 25) (.c (.bool false)), none⟩] (some [0, 1, 26])) (
 .ite (.t 26) (
 .skip) (
 .exit 0))) (
 .blk 1 (
 .reg false [
 ⟨some 27, none, .mv false (.t 0), none⟩,
 ⟨some 28, none, .mv false (.t 0), none⟩,
 ⟨some 29, none, .chk (.t 28), none⟩,
 ⟨some 30, none, .ld none (.t 29), none⟩,
 ⟨some 31, none, .sls false 4 (.t 30) (some (.c (.int .i64 1))) none, none⟩,
 ⟨some 32, none, .chk (.t 27), none⟩,
 ⟨none, none, .st none (.t 32) (.t 31), none⟩] (some [0, 1])))))) (
.seq (.reg false [
 ⟨some 33, none, .mv false (.t 0), none⟩,
 ⟨some 34, none, .chk (.t 33), none⟩,
 ⟨some 35, none, .ld none (.t 34), none⟩,
 ⟨some 36, none, .len false (.t 35), none⟩,
 ⟨some 37, none, .bin .gtr .i64 (.t 36) (.c (.int .i64 0)), none⟩,
 ⟨some 38, none, .mv false (.t 37), none⟩,
 ⟨some 39, some (38, true), .mv false (.t 0), none⟩,
 ⟨some 40, some (38, true), .chk (.t 39), none⟩,
 ⟨some 41, some (38, true), .ld none (.t 40), none⟩,
 ⟨some 42, some (38, true), .ixs 4 (.t 41) (.c (.int .i64 0)), none⟩,
 ⟨some 43, some (38, true), .fld 0 (.t 42), none⟩,
 ⟨some 44, some (38, true), .ld none (.t 43), none⟩,
 ⟨some 45, some (38, true), .mv false (.t 1), none⟩,
 ⟨some 46, some (38, true), .bin .leq .i64 (.t 44) (.t 45), none⟩,
 ⟨some 47, none, .pick (.t 38) (.t 46) (.c (.bool false)), none⟩,
 ⟨some 4, none, .mv false (.t 47), none⟩] (some [4])) (
.ret)))
set_option maxRecDepth 1000000 in
theorem KF : (Tryz.f135.body.bind fun code => kF Tryz.prog Tryz.f135.ntmps code c_region_across) = some c_region_across.bare := by kernel_rfl
def qL : List R := [.t 4]
theorem KY {ds : List D} {d : D} {bx bx' : List Ent} (hn : Nat.ble ds.length 48 = true) (h : run TSpC gtab (j0 bx) c_region_across (retG qL (fun d1 bx1 => Rt (j0 bx) bx1 d1 d bx')) ⟨env0 0 ds, bx⟩) : TSpM 135 ds bx d bx' := qI kM c_region_across qL (fn := Tryz.f135) (by kernel_rfl) (by kernel_rfl) KF (by kernel_rfl) hn h
def c_slices_Clone_api_Rect_api_Rect : C := .seq (.reg false [
 ⟨some 2, none, .nilS 45 4, none⟩] (some [0])) (
.seq (.seq (.reg false [
 ⟨some 3, none, .mv false (.t 0), none⟩,
 ⟨some 4, none, .prm true false (.eqn false 40) [.t 3], none⟩] (some [0, 4])) (
.ite (.t 4) (
 .seq (.reg false [
 ⟨some 2, none, .nilS 45 4, none⟩] (some [2])) (
 .ret)) (
 .skip))) (
.seq (.reg false [
 ⟨some 5, none, .bsl (some false) 45 4 (some 4) [], none⟩,
 ⟨some 6, none, .mv false (.t 0), none⟩,
 ⟨some 7, none, .app 45 4 32 (.t 5) (.t 6), none⟩,
 ⟨some 2, none, .mv false (.t 7), none⟩] (some [2])) (
.ret)))
set_option maxRecDepth 1000000 in
theorem ve : (Tryz.f138.body.bind fun code => kF Tryz.prog Tryz.f138.ntmps code c_slices_Clone_api_Rect_api_Rect) = some c_slices_Clone_api_Rect_api_Rect.bare := by kernel_rfl
def qg : List R := [.t 2]
theorem vk {ds : List D} {d : D} (hn : Nat.ble ds.length 8 = true) (h : run TSpC gtab 0 c_slices_Clone_api_Rect_api_Rect (retK qg (· = d)) ⟨env0 0 ds, []⟩) : TSp 138 ds d := qn kM c_slices_Clone_api_Rect_api_Rect qg (fn := Tryz.f138) (by kernel_rfl) (by kernel_rfl) ve (by kernel_rfl) hn h
def c_pen_isFunc : C := .seq (.reg false [
 ⟨some 2, none, .mv false (.c (.bool false)), none⟩] (some [0])) (
.seq (.reg false [
 ⟨some 3, none, .mv false (.t 0), none⟩,
 ⟨some 4, none, .bin .geq .i64 (.t 3) (.c (.int .i64 0)), none⟩,
 ⟨some 5, none, .mv false (.t 4), none⟩,
 ⟨some 6, some (5, true), .mv false (.t 0), none⟩,
 ⟨some 7, some (5, true), .bin .leq .i64 (.t 6) (.c (.int .i64 15)), none⟩,
 ⟨some 8, none, .pick (.t 5) (.t 7) (.c (.bool false)), none⟩,
 ⟨some 2, none, .mv false (.t 8), none⟩] (some [2])) (
.ret))
set_option maxRecDepth 1000000 in
theorem ZT : (Tryz.f139.body.bind fun code => kF Tryz.prog Tryz.f139.ntmps code c_pen_isFunc) = some c_pen_isFunc.bare := by kernel_rfl
def yJ : List R := [.t 2]
theorem Vi {ds : List D} {d : D} (hn : Nat.ble ds.length 9 = true) (h : run TSpC gtab 0 c_pen_isFunc (retK yJ (· = d)) ⟨env0 0 ds, []⟩) : TSp 139 ds d := qn kM c_pen_isFunc yJ (fn := Tryz.f139) (by kernel_rfl) (by kernel_rfl) ZT (by kernel_rfl) hn h
def c_pen_isPlace : C := .seq (.reg false [
 ⟨some 2, none, .mv false (.c (.bool false)), none⟩] (some [0])) (
.seq (.reg false [
 ⟨some 3, none, .mv false (.t 0), none⟩,
 ⟨some 4, none, .bin .geq .i64 (.t 3) (.c (.int .i64 (-32768))), none⟩,
 ⟨some 5, none, .mv false (.t 4), none⟩,
 ⟨some 6, some (5, true), .mv false (.t 0), none⟩,
 ⟨some 7, some (5, true), .bin .leq .i64 (.t 6) (.c (.int .i64 32767)), none⟩,
 ⟨some 8, none, .pick (.t 5) (.t 7) (.c (.bool false)), none⟩,
 ⟨some 2, none, .mv false (.t 8), none⟩] (some [2])) (
.ret))
set_option maxRecDepth 1000000 in
theorem Zh : (Tryz.f140.body.bind fun code => kF Tryz.prog Tryz.f140.ntmps code c_pen_isPlace) = some c_pen_isPlace.bare := by kernel_rfl
def x8 : List R := [.t 2]
theorem ZL {ds : List D} {d : D} (hn : Nat.ble ds.length 9 = true) (h : run TSpC gtab 0 c_pen_isPlace (retK x8 (· = d)) ⟨env0 0 ds, []⟩) : TSp 140 ds d := qn kM c_pen_isPlace x8 (fn := Tryz.f140) (by kernel_rfl) (by kernel_rfl) Zh (by kernel_rfl) hn h
def c_plane_Plane_Set : C := .reg true [
 ⟨some 8, none, .mv false (.t 0), none⟩,
 ⟨some 9, none, .chk (.t 8), none⟩,
 ⟨some 10, none, .fld 3 (.t 9), none⟩,
 ⟨some 11, none, .ld none (.t 10), none⟩,
 ⟨some 12, none, .mv false (.t 2), none⟩,
 ⟨some 13, none, .mv false (.t 0), none⟩,
 ⟨some 14, none, .chk (.t 13), none⟩,
 ⟨some 15, none, .fld 0 (.t 14), none⟩,
 ⟨some 16, none, .ld none (.t 15), none⟩,
 ⟨some 17, none, .bin .mul .i64 (.t 12) (.t 16), none⟩,
 ⟨some 18, none, .mv false (.t 1), none⟩,
 ⟨some 19, none, .bin .add .i64 (.t 17) (.t 18), none⟩,
 ⟨some 20, none, .mv false (.t 3), none⟩,
 ⟨some 21, none, .ixs 1 (.t 11) (.t 19), none⟩,
 ⟨none, none, .st none (.t 21) (.t 20), none⟩] (some [])
set_option maxRecDepth 1000000 in
theorem JN : (Tryz.f142.body.bind fun code => kF Tryz.prog Tryz.f142.ntmps code c_plane_Plane_Set) = some c_plane_Plane_Set.bare := by kernel_rfl
def zE : List R := []
theorem J8 {ds : List D} {d : D} {bx bx' : List Ent} (hn : Nat.ble ds.length 22 = true) (h : run TSpC gtab (j0 bx) c_plane_Plane_Set (retG zE (fun d1 bx1 => Rt (j0 bx) bx1 d1 d bx')) ⟨env0 0 ds, bx⟩) : TSpM 142 ds bx d bx' := qI kM c_plane_Plane_Set zE (fn := Tryz.f142) (by kernel_rfl) (by kernel_rfl) JN (by kernel_rfl) hn h
def c_rop_Mix : C := .seq (.reg false [
 ⟨some 8, none, .mv false (.c (.int .u8 0)), none⟩] (some [0, 1, 2, 3])) (
.seq (.reg false [
 ⟨some 13, none, .mv false (.t 0), none⟩,
 ⟨some 14, none, .call true 180 [.t 13], none⟩,
 ⟨some 9, none, .mv false (.t 14), none⟩] (some [1, 2, 3, 9])) (
.seq (.reg false [
 ⟨some 15, none, .mv false (.t 2), none⟩,
 ⟨some 16, none, .mv false (.t 3), none⟩,
 ⟨some 17, none, .bin .andNot .u8 (.t 15) (.t 16), none⟩,
 ⟨some 10, none, .mv false (.t 17), none⟩] (some [1, 2, 3, 9, 10])) (
.seq (.seq (.reg false [
 ⟨some 18, none, .mv false (.c (.int .i64 0)), none⟩] (some [1, 2, 3, 9, 10, 18])) (
.blk 0 (
 .loop (
 .seq (.reg false [
 ⟨some 19, none, .bin .lss .i64 (.t 18) (.c (.int .i64 8)), none⟩] (some [1, 2, 3, 9, 10, 18, 19])) (
 .seq (.ite (.t 19) (
 .skip) (
 .exit 0)) (
 .seq (.blk 1 (
 .seq (.reg false [
 ⟨some 20, none, .mv false (.t 18), none⟩,
 ⟨some 11, none, .mv false (.t 20), none⟩] (some [1, 2, 3, 9, 10, 11, 18])) (
 .seq (.reg false [
 ⟨some 21, none, .mv false (.t 11), none⟩,
 ⟨some 22, none, .bin .shl .u8 (.c (.int .u8 1)) (.t 21), none⟩,
 ⟨some 12, none, .mv false (.t 22), none⟩] (some [1, 2, 3, 9, 10, 12, 18])) (
 .seq (.reg false [
 ⟨some 23, none, .mv false (.t 3), none⟩,
 ⟨some 24, none, .mv false (.t 12), none⟩,
 ⟨some 25, none, .bin .and .u8 (.t 23) (.t 24), none⟩,
 ⟨some 26, none, .bin .neq .u8 (.t 25) (.c (.int .u8 0)), none⟩,
 ⟨some 27, none, .mv false (.t 26), none⟩,
 ⟨some 28, some (27, true), .mv false (.t 9), none⟩,
 ⟨some 29, some (27, true), .mv false (.t 1), none⟩,
 ⟨some 30, some (27, true), .mv false (.t 12), none⟩,
 ⟨some 31, some (27, true), .bin .and .u8 (.t 29) (.t 30), none⟩,
 ⟨some 32, some (27, true), .bin .neq .u8 (.t 31) (.c (.int .u8 0)), none⟩,
 ⟨some 33, some (27, true), .mv false (.t 2), none⟩,
 ⟨some 34, some (27, true), .mv false (.t 12), none⟩,
 ⟨some 35, some (27, true), .bin .and .u8 (.t 33) (.t 34), none⟩,
 ⟨some 36, some (27, true), .bin .neq .u8 (.t 35) (.c (.int .u8 0)), none⟩,
 ⟨some 37, some (27, true), .callv false (.t 28) [(.t 32), (.t 36)], none⟩,
 ⟨some 38, none, .pick (.t 27) (.t 37) (.c (.bool false)), none⟩] (some [1, 2, 3, 9, 10, 12, 18, 38])) (
 .ite (.t 38) (
 .reg false [
 ⟨some 39, none, .mv false (.t 10), none⟩,
 ⟨some 40, none, .mv false (.t 12), none⟩,
 ⟨some 41, none, .bin .or .u8 (.t 39) (.t 40), none⟩,
 ⟨some 10, none, .mv false (.t 41), none⟩] (some [1, 2, 3, 9, 10, 18])) (
 .skip)))))) (
 .reg false [
 ⟨some 42, none, .bin .add .i64 (.t 18) (.c (.int .i64 1)), none⟩,
 ⟨some 18, none, .mv false (.t 42), none⟩] (some [1, 2, 3, 9, 10, 18])))))))) (
.seq (.reg false [
 ⟨some 43, none, .mv false (.t 10), none⟩,
 ⟨some 8, none, .mv false (.t 43), none⟩] (some [8])) (
.ret)))))
set_option maxRecDepth 1000000 in
theorem Y8 : (Tryz.f143.body.bind fun code => kF Tryz.prog Tryz.f143.ntmps code c_rop_Mix) = some c_rop_Mix.bare := by kernel_rfl
def xE : List R := [.t 8]
theorem spo_rop_Mix {ds : List D} {d : D} (hn : Nat.ble ds.length 44 = true) (h : run TSpC gtab 0 c_rop_Mix (retK xE (· = d)) ⟨env0 0 ds, []⟩) : TSp 143 ds d := qn kM c_rop_Mix xE (fn := Tryz.f143) (by kernel_rfl) (by kernel_rfl) Y8 (by kernel_rfl) hn h
def c_plane_Plane_changed : C := .seq (.reg false [
 ⟨some 2, none, .nilF 40 1, none⟩] (some [0])) (
.seq (.reg false [
 ⟨some 8, none, .prm false true (.mkd 240) [(.c (.int .i64 256)), (.c (.int .i64 256))], none⟩,
 ⟨some 3, none, .mv false (.t 8), none⟩] (some [0, 3])) (
.seq (.seq (.reg false [
 ⟨some 9, none, .mv false (.t 0), none⟩,
 ⟨some 10, none, .chk (.t 9), none⟩,
 ⟨some 11, none, .fld 1 (.t 10), none⟩,
 ⟨some 12, none, .ld none (.t 11), none⟩,
 ⟨some 13, none, .mv false (.c (.int .i64 0)), none⟩] (some [0, 3, 12, 13])) (
.blk 0 (
 .loop (
 .seq (.reg false [
 ⟨some 14, none, .bin .lss .i64 (.t 13) (.t 12), none⟩] (some [0, 3, 12, 13, 14])) (
 .seq (.ite (.t 14) (
 .skip) (
 .exit 0)) (
 .seq (.blk 1 (
 .seq (.reg false [
 ⟨some 15, none, .mv false (.t 13), none⟩,
 ⟨some 4, none, .mv false (.t 15), none⟩] (some [0, 3, 4, 12, 13])) (
 .seq (.reg false [
 ⟨some 5, none, .mv false (.c (.int .i64 0)), none⟩] (some [0, 3, 4, 5, 12, 13])) (
 .blk 2 (
 .loop (
 .seq (.seq (.reg false [
 ⟨some 16, none, .mv false (.t 5), none⟩,
 ⟨some 17, none, .mv false (.t 0), none⟩,
 ⟨some 18, none, .chk (.t 17), none⟩,
 ⟨some 19, none, .fld 0 (.t 18), none⟩,
 ⟨some 20, none, .ld none (.t 19), none⟩,
 ⟨some 21, none, .bin .lss .i64 (.t 16) (.t 20), none⟩] (some [0, 3, 4, 5, 12, 13, 21])) (
 .ite (.t 21) (
 .skip) (
 .exit 2))) (
 .blk 3 (
 .seq (.reg false [
 ⟨some 22, none, .mv false (.t 0), none⟩,
 ⟨some 23, none, .mv false (.t 5), none⟩,
 ⟨some 24, none, .mv false (.t 4), none⟩,
 ⟨some 25, none, .call false 181 [(.t 22), (.t 23), (.t 24)], none⟩,
 ⟨some 26, none, .mv false (.t 5), none⟩,
 ⟨some 6, none, .mv false (.t 25), none⟩,
 ⟨some 7, none, .mv false (.t 26), none⟩] (some [0, 3, 4, 5, 6, 7, 12, 13])) (
 .seq (.blk 4 (
 .loop (
 .seq (.seq (.reg false [
 ⟨some 27, none, .mv false (.t 5), none⟩,
 ⟨some 28, none, .mv false (.t 0), none⟩,
 ⟨some 29, none, .chk (.t 28), none⟩,
 ⟨some 30, none, .fld 0 (.t 29), none⟩,
 ⟨some 31, none, .ld none (.t 30), none⟩,
 ⟨some 32, none, .bin .lss .i64 (.t 27) (.t 31), none⟩,
 ⟨some 33, none, .mv false (.t 32), none⟩,
 ⟨some 34, some (33, true), .mv false (.t 0), none⟩,
 ⟨some 35, some (33, true), .mv false (.t 5), none⟩,
 ⟨some 36, some (33, true), .mv false (.t 4), none⟩,
 ⟨some 37, some (33, true), .call false 181 [(.t 34), (.t 35), (.t 36)], none⟩,
 ⟨some 38, some (33, true), .mv false (.t 6), none⟩,
 ⟨some 39, some (33, true), .bin .eql .u8 (.t 37) (.t 38), none⟩,
 ⟨some 40, none, .pick (.t 33) (.t 39) (.c (.bool false)), none⟩,
 ⟨some 41, none, .mv false (.t 40), none⟩,
 ⟨some 42, some (41, true), .mv false (.t 0), none⟩,
 ⟨some 43, some (41, true), .mv false (.t 5), none⟩,
 ⟨some 44, some (41, true), .mv false (.t 4), none⟩,
 ⟨some 45, some (41, true), .call false 88 [(.t 42), (.t 43), (.t 44)], none⟩,
 ⟨some 46, some (41, true), .mv false (.t 6), none⟩,
 ⟨some 47, some (41, true), .bin .neq .u8 (.t 45) (.t 46), none⟩,
 ⟨some 48, none, .pick (.t 41) (.t 47) (.c (.bool false)), none⟩] (some [0, 3, 4, 5, 6, 7, 12, 13, 48])) (
 .ite (.t 48) (
 .skip) (
 .exit 4))) (
 .blk 5 (
 .reg false [
 ⟨some 49, none, .mv false (.t 5), none⟩,
 ⟨some 50, none, .bin .add .i64 (.t 49) (.c (.int .i64 1)), none⟩,
 ⟨some 5, none, .mv false (.t 50), none⟩] (some [0, 3, 4, 5, 6, 7, 12, 13])))))) (
 .seq (.seq (.reg false [
 ⟨some 51, none, .mv false (.t 5), none⟩,
 ⟨some 52, none, .mv false (.t 7), none⟩,
 ⟨some 53, none, .bin .eql .i64 (.t 51) (.t 52), none⟩] (some [0, 3, 4, 5, 6, 7, 12, 13, 53])) (
 .ite (.t 53) (
 .seq (.reg false [
 ⟨some 54, none, .mv false (.t 5), none⟩,
 ⟨some 55, none, .bin .add .i64 (.t 54) (.c (.int .i64 1)), none⟩,
 ⟨some 5, none, .mv false (.t 55), none⟩] (some [0, 3, 4, 5, 12, 13])) (
 .exit 3)) (
 .skip))) (
 .reg false [
 ⟨some 56, none, .mv false (.t 3), none⟩,
 ⟨some 57, none, .mv false (.t 6), none⟩,
 ⟨some 58, none, .mv false (.t 3), none⟩,
 ⟨some 59, none, .mv false (.t 6), none⟩,
 ⟨some 60, none, .ixs 1 (.t 58) (.t 59), none⟩,
 ⟨some 61, none, .ld none (.t 60), none⟩,
 ⟨some 62, none, .mv false (.t 7), none⟩,
 ⟨some 63, none, .mv false (.t 4), none⟩,
 ⟨some 64, none, .mv false (.t 5), none⟩,
 ⟨some 65, none, .mv false (.t 7), none⟩,
 ⟨some 66, none, .bin .sub .i64 (.t 64) (.t 65), none⟩,
 ⟨some 67, none, .bld [(.int .i64 0), (.int .i64 0), (.int .i64 0), (.int .i64 0)] [(0, none, (.t 62)), (1, none, (.t 63)), (2, none, (.t 66)), (3, none, (.c (.int .i64 1)))], none⟩,
 ⟨some 68, none, .bsl none 45 4 (some 4) [.t 67], none⟩,
 ⟨some 69, none, .app 45 4 32 (.t 61) (.t 68), none⟩,
 ⟨some 70, none, .ixs 1 (.t 56) (.t 57), none⟩,
 ⟨none, none, .st none (.t 70) (.t 69), none⟩] (some [0, 3, 4, 5, 12, 13])))))))))))) (
 .reg false [
 ⟨some 71, none, .bin .add .i64 (.t 13) (.c (.int .i64 1)), none⟩,
 ⟨some 13, none, .mv false (.t 71), none⟩] (some [0, 3, 12, 13])))))))) (
.seq (.reg false [
 ⟨some 72, none, .mv false (.t 3), none⟩,
 ⟨some 2, none, .mv false (.t 72), none⟩] (some [2])) (
.ret))))
set_option maxRecDepth 1000000 in
theorem yc : (Tryz.f144.body.bind fun code => kF Tryz.prog Tryz.f144.ntmps code c_plane_Plane_changed) = some c_plane_Plane_changed.bare := by kernel_rfl
def kJ : List R := [.t 2]
theorem yi {ds : List D} {d : D} {bx bx' : List Ent} (hn : Nat.ble ds.length 73 = true) (h : run TSpC gtab (j0 bx) c_plane_Plane_changed (retG kJ (fun d1 bx1 => Rt (j0 bx) bx1 d1 d bx')) ⟨env0 0 ds, bx⟩) : TSpM 144 ds bx d bx' := qI kM c_plane_Plane_changed kJ (fn := Tryz.f144) (by kernel_rfl) (by kernel_rfl) yc (by kernel_rfl) hn h
def c_grid_Grid_Fill_1 : C := .seq (.reg false [
 ⟨some 9, none, .mv false (.t 1), none⟩,
 ⟨some 8, none, .mv false (.t 9), none⟩] (some [0, 2, 3, 4, 8])) (
.blk 0 (
 .loop (
 .seq (.seq (.reg false [
 ⟨some 10, none, .mv false (.t 8), none⟩,
 ⟨some 11, none, .mv false (.t 2), none⟩,
 ⟨some 12, none, .bin .lss .i64 (.t 10) (.t 11), none⟩] (some [0, 2, 3, 4, 8, 12])) (
 .ite (.t 12) (
 .skip) (
 .exit 0))) (
 .seq (.blk 1 (
 .reg false [
 ⟨some 15, none, .fld 2 (.t 4), none⟩,
 ⟨some 16, none, .ld none (.t 15), none⟩,
 ⟨some 17, none, .mv false (.t 0), none⟩,
 ⟨some 18, none, .fld 0 (.t 4), none⟩,
 ⟨some 19, none, .ld none (.t 18), none⟩,
 ⟨some 20, none, .bin .mul .i64 (.t 17) (.t 19), none⟩,
 ⟨some 21, none, .mv false (.t 8), none⟩,
 ⟨some 22, none, .bin .add .i64 (.t 20) (.t 21), none⟩,
 ⟨some 23, none, .ld none (.t 3), none⟩,
 ⟨some 24, none, .ixs 1 (.t 16) (.t 22), none⟩,
 ⟨none, none, .st none (.t 24) (.t 23), none⟩] (some [0, 2, 3, 4, 8]))) (
 .reg false [
 ⟨some 13, none, .mv false (.t 8), none⟩,
 ⟨some 14, none, .bin .add .i64 (.t 13) (.c (.int .i64 1)), none⟩,
 ⟨some 8, none, .mv false (.t 14), none⟩] (some [0, 2, 3, 4, 8]))))))
set_option maxRecDepth 1000000 in
theorem y7 : (Tryz.f163.body.bind fun code => kF Tryz.prog Tryz.f163.ntmps code c_grid_Grid_Fill_1) = some c_grid_Grid_Fill_1.bare := by kernel_rfl
def qT : List R := []
theorem Jj {ds : List D} {d : D} {bx bx' : List Ent} (hn : Nat.ble ds.length 25 = true) (h : run TSpC gtab (j0 bx) c_grid_Grid_Fill_1 (retG qT (fun d1 bx1 => Rt (j0 bx) bx1 d1 d bx')) ⟨env0 0 ds, bx⟩) : TSpM 163 ds bx d bx' := qI kM c_grid_Grid_Fill_1 qT (fn := Tryz.f163) (by kernel_rfl) (by kernel_rfl) y7 (by kernel_rfl) hn h
def c_rop_function : C := .seq (.reg false [
 ⟨some 1, none, .box false (.t 0), none⟩,
 ⟨some 2, none, .mv false (.c .nil), none⟩] (some [1])) (
.seq (.seq (.reg false [
 ⟨some 3, none, .ld none (.t 1), none⟩,
 ⟨some 4, none, .call false 208 [.t 3], none⟩,
 ⟨some 5, none, .not (.t 4), none⟩] (some [1, 5])) (
.ite (.t 5) (
 .seq (.reg false [
 ⟨some 2, none, .mv false (.c (.fn 209 [])), none⟩] (some [2])) (
 .ret)) (
 .skip))) (
.seq (.reg false [
 ⟨some 6, none, .clo 210 [.t 1], none⟩,
 ⟨some 2, none, .mv false (.t 6), none⟩] (some [2])) (
.ret)))
set_option maxRecDepth 1000000 in
theorem Qy : (Tryz.f180.body.bind fun code => kF Tryz.prog Tryz.f180.ntmps code c_rop_function) = some c_rop_function.bare := by kernel_rfl
def vI : List R := [.t 2]
theorem QU {ds : List D} {d : D} {bx bx' : List Ent} (hn : Nat.ble ds.length 7 = true) (h : run TSpC gtab (j0 bx) c_rop_function (retG vI (fun d1 bx1 => Rt (j0 bx) bx1 d1 d bx')) ⟨env0 0 ds, bx⟩) : TSpM 180 ds bx d bx' := qI kM c_rop_function vI (fn := Tryz.f180) (by kernel_rfl) (by kernel_rfl) Qy (by kernel_rfl) hn h
def c_plane_Plane_Now : C := .seq (.reg false [
 ⟨some 6, none, .mv false (.c (.int .u8 0)), none⟩] (some [0, 1, 2])) (
.seq (.reg true [
 ⟨some 7, none, .mv false (.t 0), none⟩,
 ⟨some 8, none, .chk (.t 7), none⟩,
 ⟨some 9, none, .fld 3 (.t 8), none⟩,
 ⟨some 10, none, .ld none (.t 9), none⟩,
 ⟨some 11, none, .mv false (.t 2), none⟩,
 ⟨some 12, none, .mv false (.t 0), none⟩,
 ⟨some 13, none, .chk (.t 12), none⟩,
 ⟨some 14, none, .fld 0 (.t 13), none⟩,
 ⟨some 15, none, .ld none (.t 14), none⟩,
 ⟨some 16, none, .bin .mul .i64 (.t 11) (.t 15), none⟩,
 ⟨some 17, none, .mv false (.t 1), none⟩,
 ⟨some 18, none, .bin .add .i64 (.t 16) (.t 17), none⟩,
 ⟨some 19, none, .ixs 1 (.t 10) (.t 18), none⟩,
 ⟨some 20, none, .ld none (.t 19), none⟩,
 ⟨some 6, none, .mv false (.t 20), none⟩] (some [6])) (
.ret))
set_option maxRecDepth 1000000 in
theorem JO : (Tryz.f181.body.bind fun code => kF Tryz.prog Tryz.f181.ntmps code c_plane_Plane_Now) = some c_plane_Plane_Now.bare := by kernel_rfl
def zF : List R := [.t 6]
theorem J9 {ds : List D} {d : D} {bx bx' : List Ent} (hn : Nat.ble ds.length 21 = true) (h : run TSpC gtab (j0 bx) c_plane_Plane_Now (retG zF (fun d1 bx1 => Rt (j0 bx) bx1 d1 d bx')) ⟨env0 0 ds, bx⟩) : TSpM 181 ds bx d bx' := qI kM c_plane_Plane_Now zF (fn := Tryz.f181) (by kernel_rfl) (by kernel_rfl) JO (by kernel_rfl) hn h
def c_rop_known : C := .seq (.reg false [
 ⟨some 2, none, .mv false (.c (.bool false)), none⟩] (some [0])) (
.seq (.reg false [
 ⟨some 3, none, .mv false (.t 0), none⟩,
 ⟨some 4, none, .bin .geq .i64 (.t 3) (.c (.int .i64 0)), none⟩,
 ⟨some 5, none, .mv false (.t 4), none⟩,
 ⟨some 6, some (5, true), .mv false (.t 0), none⟩,
 ⟨some 7, some (5, true), .bin .leq .i64 (.t 6) (.c (.int .i64 15)), none⟩,
 ⟨some 8, none, .pick (.t 5) (.t 7) (.c (.bool false)), none⟩,
 ⟨some 2, none, .mv false (.t 8), none⟩] (some [2])) (
.ret))
set_option maxRecDepth 1000000 in
theorem Xc : (Tryz.f208.body.bind fun code => kF Tryz.prog Tryz.f208.ntmps code c_rop_known) = some c_rop_known.bare := by kernel_rfl
def Js : List R := [.t 2]
theorem Xs {ds : List D} {d : D} (hn : Nat.ble ds.length 9 = true) (h : run TSpC gtab 0 c_rop_known (retK Js (· = d)) ⟨env0 0 ds, []⟩) : TSp 208 ds d := qn kM c_rop_known Js (fn := Tryz.f208) (by kernel_rfl) (by kernel_rfl) Xc (by kernel_rfl) hn h
def c_rop_function_2 : C := .seq (.reg false [
 ⟨some 5, none, .mv false (.c (.bool false)), none⟩] (some [0, 1, 2])) (
.seq (.reg true [
 ⟨some 6, none, .ld none (.t 2), none⟩,
 ⟨some 7, none, .mv false (.t 0), none⟩,
 ⟨some 8, none, .mv false (.t 1), none⟩,
 ⟨some 9, none, .call false 211 [(.t 7), (.t 8)], none⟩,
 ⟨some 10, none, .bin .and .i64 (.t 6) (.t 9), none⟩,
 ⟨some 11, none, .bin .neq .i64 (.t 10) (.c (.int .i64 0)), none⟩,
 ⟨some 5, none, .mv false (.t 11), none⟩] (some [5])) (
.ret))
set_option maxRecDepth 1000000 in
theorem Kd : (Tryz.f210.body.bind fun code => kF Tryz.prog Tryz.f210.ntmps code c_rop_function_2) = some c_rop_function_2.bare := by kernel_rfl
def zS : List R := [.t 5]
theorem Ks {ds : List D} {d : D} {bx bx' : List Ent} (hn : Nat.ble ds.length 12 = true) (h : run TSpC gtab (j0 bx) c_rop_function_2 (retG zS (fun d1 bx1 => Rt (j0 bx) bx1 d1 d bx')) ⟨env0 0 ds, bx⟩) : TSpM 210 ds bx d bx' := qI kM c_rop_function_2 zS (fn := Tryz.f210) (by kernel_rfl) (by kernel_rfl) Kd (by kernel_rfl) hn h
def c_rop_weight : C := .seq (.reg false [
 ⟨some 4, none, .mv false (.c (.int .i64 0)), none⟩] (some [0, 1])) (
.seq (.blk 0 (
 .seq (.reg false [
 ⟨some 6, none, .mv false (.t 0), none⟩,
 ⟨some 7, none, .mv false (.t 6), none⟩,
 ⟨some 8, some (7, true), .mv false (.t 1), none⟩,
 ⟨some 9, none, .pick (.t 7) (.t 8) (.c (.bool false)), none⟩,
 ⟨some 5, none, .mv false (.t 9), none⟩] (some [0, 1, 5])) (
 .ite (.t 5) (
 .seq (.reg false [
 ⟨some 4, none, .mv false (.c (.int .i64 1)), none⟩] (some [4])) (
 .ret)) (
 .seq (.reg false [
 ⟨some 11, none, .mv false (.t 0), none⟩,
 ⟨some 10, none, .mv false (.t 11), none⟩] (some [1, 10])) (
 .ite (.t 10) (
 .seq (.reg false [
 ⟨some 4, none, .mv false (.c (.int .i64 2)), none⟩] (some [4])) (
 .ret)) (
 .seq (.reg false [
 ⟨some 13, none, .mv false (.t 1), none⟩,
 ⟨some 12, none, .mv false (.t 13), none⟩] (some [12])) (
 .ite (.t 12) (
 .seq (.reg false [
 ⟨some 4, none, .mv false (.c (.int .i64 4)), none⟩] (some [4])) (
 .ret)) (
 .skip)))))))) (
.seq (.reg false [
 ⟨some 4, none, .mv false (.c (.int .i64 8)), none⟩] (some [4])) (
.ret)))
set_option maxRecDepth 1000000 in
theorem ZN : (Tryz.f211.body.bind fun code => kF Tryz.prog Tryz.f211.ntmps code c_rop_weight) = some c_rop_weight.bare := by kernel_rfl
def yF : List R := [.t 4]
theorem Ve {ds : List D} {d : D} (hn : Nat.ble ds.length 14 = true) (h : run TSpC gtab 0 c_rop_weight (retK yF (· = d)) ⟨env0 0 ds, []⟩) : TSp 211 ds d := qn kM c_rop_weight yF (fn := Tryz.f211) (by kernel_rfl) (by kernel_rfl) ZN (by kernel_rfl) hn h
end Go.AM

