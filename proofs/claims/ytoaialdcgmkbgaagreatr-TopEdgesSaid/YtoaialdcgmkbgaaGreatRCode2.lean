import Derived.Test.YtoaialdcgmkbgaaGreatRCode
import Derived.Test.YtoaialdcgmkbgaaGreatRProg

set_option linter.all false
namespace Go.AM
open Go Go.Proofs
def c_paint_Region : C := .seq (.reg false [
 ⟨some 4, none, .box true (.t 0), none⟩,
 ⟨some 5, none, .box true (.t 1), none⟩,
 ⟨some 6, none, .box true (.t 2), none⟩,
 ⟨some 7, none, .box true (.t 3), none⟩,
 ⟨some 8, none, .alloc [(.int .i64 0), (.int .i64 0), (.ls 1 [])], none⟩] (some [4, 5, 6, 7, 8])) (
.seq (.reg false [
 ⟨some 9, none, .ld (some 3) (.t 4), none⟩,
 ⟨some 10, none, .ld (some 1) (.t 5), none⟩,
 ⟨some 11, none, .ld (some 1) (.t 6), none⟩,
 ⟨some 12, none, .ld (some 9) (.t 7), none⟩,
 ⟨some 13, none, .fld 2 (.t 7), none⟩,
 ⟨some 14, none, .ld none (.t 13), none⟩,
 ⟨some 15, none, .call false 91 [(.t 9), (.t 10), (.t 11), (.t 12), (.t 14)], none⟩,
 ⟨none, none, .st (some 3) (.t 8) (.t 15), none⟩] (some [8])) (
.ret))
set_option maxRecDepth 1000000 in
theorem QC : (Tryz.f28.body.bind fun code => kF Tryz.prog Tryz.f28.ntmps code c_paint_Region) = some c_paint_Region.bare := by kernel_rfl
def vJ : List R := [.cell 8 (some 3)]
theorem QS {ds : List D} {d : D} (hn : Nat.ble ds.length 16 = true) (h : run TSpC gtab 0 c_paint_Region (retK vJ (· = d)) ⟨env0 0 ds, []⟩) : TSp 28 ds d := qn kM c_paint_Region vJ (fn := Tryz.f28) (by kernel_rfl) (by kernel_rfl) QC (by kernel_rfl) hn h
def c_paint_with : C := .seq (.reg false [
 ⟨some 5, none, .box true (.t 0), none⟩,
 ⟨some 6, none, .box true (.t 1), none⟩,
 ⟨some 7, none, .box true (.t 2), none⟩,
 ⟨some 8, none, .box true (.t 3), none⟩,
 ⟨some 10, none, .alloc [(.int .i64 0), (.int .i64 0), (.ls 1 [])], none⟩] (some [4, 5, 6, 7, 8, 10])) (
.seq (.seq (.reg false [
 ⟨some 12, none, .ld (some 9) (.t 8), none⟩,
 ⟨some 13, none, .call false 83 [.t 12], none⟩,
 ⟨some 14, none, .bin .neq .i64 (.t 13) (.c (.int .i64 0)), none⟩] (some [4, 5, 6, 7, 8, 10, 14])) (
.ite (.t 14) (
 .seq (.reg false [
 ⟨some 15, none, .ld (some 3) (.t 5), none⟩,
 ⟨none, none, .st (some 3) (.t 10) (.t 15), none⟩] (some [10])) (
 .ret)) (
 .skip))) (
.seq (.reg false [
 ⟨some 16, none, .ld (some 3) (.t 5), none⟩,
 ⟨some 17, none, .call true 84 [.t 16], none⟩,
 ⟨some 11, none, .mv false (.t 17), none⟩] (some [4, 6, 7, 8, 10, 11])) (
.seq (.reg true [
 ⟨some 18, none, .ld (some 1) (.t 6), none⟩,
 ⟨some 19, none, .ld (some 1) (.t 7), none⟩,
 ⟨some 20, none, .call false 13 [(.t 18), (.t 19)], none⟩,
 ⟨some 21, none, .mv false (.t 11), none⟩,
 ⟨some 22, none, .call false 85 [.t 21], none⟩,
 ⟨some 23, none, .call false 19 [(.t 20), (.t 22)], none⟩,
 ⟨some 24, none, .mv false (.t 11), none⟩,
 ⟨some 25, none, .ld (some 9) (.t 8), none⟩,
 ⟨some 26, none, .mv false (.t 4), none⟩,
 ⟨some 27, none, .call true 151 [(.t 24), (.t 25), (.t 26)], none⟩,
 ⟨some 28, none, .call true 150 [(.t 23), (.t 27)], none⟩] (some [10, 11])) (
.seq (.reg false [
 ⟨some 29, none, .mv false (.t 11), none⟩,
 ⟨some 30, none, .call false 89 [.t 29], none⟩,
 ⟨none, none, .st (some 3) (.t 10) (.t 30), none⟩] (some [10])) (
.ret)))))
set_option maxRecDepth 1000000 in
theorem ZU : (Tryz.f91.body.bind fun code => kF Tryz.prog Tryz.f91.ntmps code c_paint_with) = some c_paint_with.bare := by kernel_rfl
def qA : List R := [.cell 10 (some 3)]
theorem Vj {ds : List D} {d : D} (hn : Nat.ble ds.length 31 = true) (h : run TSpC gtab 0 c_paint_with (retK qA (· = d)) ⟨env0 0 ds, []⟩) : TSp 91 ds d := qn kM c_paint_with qA (fn := Tryz.f91) (by kernel_rfl) (by kernel_rfl) ZU (by kernel_rfl) hn h
def c_paint_painter : C := .seq (.reg false [
 ⟨some 3, none, .box false (.t 0), none⟩,
 ⟨some 4, none, .box true (.t 1), none⟩,
 ⟨some 5, none, .box false (.t 2), none⟩,
 ⟨some 6, none, .mv false (.c .nil), none⟩] (some [3, 4, 5])) (
.seq (.reg false [
 ⟨some 7, none, .clo 188 [(.t 3), (.t 4), (.t 5)], none⟩,
 ⟨some 6, none, .mv false (.t 7), none⟩] (some [6])) (
.ret))
set_option maxRecDepth 1000000 in
theorem KK : (Tryz.f151.body.bind fun code => kF Tryz.prog Tryz.f151.ntmps code c_paint_painter) = some c_paint_painter.bare := by kernel_rfl
def xr : List R := [.t 6]
theorem K5 {ds : List D} {d : D} {bx bx' : List Ent} (hn : Nat.ble ds.length 8 = true) (h : run TSpC gtab (j0 bx) c_paint_painter (retG xr (fun d1 bx1 => Rt (j0 bx) bx1 d1 d bx')) ⟨env0 0 ds, bx⟩) : TSpM 151 ds bx d bx' := qI kM c_paint_painter xr (fn := Tryz.f151) (by kernel_rfl) (by kernel_rfl) KK (by kernel_rfl) hn h
def c_paint_each : C := .seq (.reg false [
 ⟨some 2, none, .box true (.t 0), none⟩] (some [1, 2])) (
.seq (.reg false [
 ⟨some 8, none, .ld (some 1) (.t 2), none⟩,
 ⟨some 9, none, .call false 76 [.t 8], none⟩,
 ⟨some 10, none, .len false (.t 9), none⟩,
 ⟨some 11, none, .mv false (.c (.int .i64 0)), none⟩] (some [1, 9, 10, 11])) (
.blk 0 (
 .loop (
 .seq (.reg false [
 ⟨some 12, none, .bin .lss .i64 (.t 11) (.t 10), none⟩] (some [1, 9, 10, 11, 12])) (
 .seq (.ite (.t 12) (
 .skip) (
 .exit 0)) (
 .seq (.blk 1 (
 .seq (.reg false [
 ⟨some 13, none, .ixs 4 (.t 9) (.t 11), none⟩,
 ⟨some 14, none, .ld (some 4) (.t 13), none⟩,
 ⟨some 5, none, .alloc [(.int .i64 0), (.int .i64 0), (.int .i64 0), (.int .i64 0)], none⟩,
 ⟨none, none, .st (some 4) (.t 5) (.t 14), none⟩] (some [1, 5, 9, 10, 11])) (
 .seq (.reg false [
 ⟨some 15, none, .fld 1 (.t 5), none⟩,
 ⟨some 16, none, .ld none (.t 15), none⟩,
 ⟨some 6, none, .mv false (.t 16), none⟩] (some [1, 5, 6, 9, 10, 11])) (
 .blk 2 (
 .loop (
 .seq (.seq (.reg false [
 ⟨some 17, none, .mv false (.t 6), none⟩,
 ⟨some 18, none, .fld 1 (.t 5), none⟩,
 ⟨some 19, none, .ld none (.t 18), none⟩,
 ⟨some 20, none, .fld 3 (.t 5), none⟩,
 ⟨some 21, none, .ld none (.t 20), none⟩,
 ⟨some 22, none, .bin .add .i64 (.t 19) (.t 21), none⟩,
 ⟨some 23, none, .bin .lss .i64 (.t 17) (.t 22), none⟩] (some [1, 5, 6, 9, 10, 11, 23])) (
 .ite (.t 23) (
 .skip) (
 .exit 2))) (
 .seq (.blk 3 (
 .seq (.reg false [
 ⟨some 26, none, .fld 0 (.t 5), none⟩,
 ⟨some 27, none, .ld none (.t 26), none⟩,
 ⟨some 7, none, .mv false (.t 27), none⟩] (some [1, 5, 6, 7, 9, 10, 11])) (
 .blk 4 (
 .loop (
 .seq (.seq (.reg false [
 ⟨some 28, none, .mv false (.t 7), none⟩,
 ⟨some 29, none, .fld 0 (.t 5), none⟩,
 ⟨some 30, none, .ld none (.t 29), none⟩,
 ⟨some 31, none, .fld 2 (.t 5), none⟩,
 ⟨some 32, none, .ld none (.t 31), none⟩,
 ⟨some 33, none, .bin .add .i64 (.t 30) (.t 32), none⟩,
 ⟨some 34, none, .bin .lss .i64 (.t 28) (.t 33), none⟩] (some [1, 5, 6, 7, 9, 10, 11, 34])) (
 .ite (.t 34) (
 .skip) (
 .exit 4))) (
 .seq (.blk 5 (
 .reg false [
 ⟨some 37, none, .mv false (.t 1), none⟩,
 ⟨some 38, none, .mv false (.t 7), none⟩,
 ⟨some 39, none, .mv false (.t 6), none⟩,
 ⟨some 40, none, .callv true (.t 37) [(.t 38), (.t 39)], none⟩] (some [1, 5, 6, 7, 9, 10, 11]))) (
 .reg false [
 ⟨some 35, none, .mv false (.t 7), none⟩,
 ⟨some 36, none, .bin .add .i64 (.t 35) (.c (.int .i64 1)), none⟩,
 ⟨some 7, none, .mv false (.t 36), none⟩] (some [1, 5, 6, 7, 9, 10, 11])))))))) (
 .reg false [
 ⟨some 24, none, .mv false (.t 6), none⟩,
 ⟨some 25, none, .bin .add .i64 (.t 24) (.c (.int .i64 1)), none⟩,
 ⟨some 6, none, .mv false (.t 25), none⟩] (some [1, 5, 6, 9, 10, 11]))))))))) (
 .reg false [
 ⟨some 41, none, .bin .add .i64 (.t 11) (.c (.int .i64 1)), none⟩,
 ⟨some 11, none, .mv false (.t 41), none⟩] (some [1, 9, 10, 11]))))))))
set_option maxRecDepth 1000000 in
theorem ZV : (Tryz.f150.body.bind fun code => kF Tryz.prog Tryz.f150.ntmps code c_paint_each) = some c_paint_each.bare := by kernel_rfl
def qO : List R := []
theorem Vn {ds : List D} {d : D} {bx bx' : List Ent} (hn : Nat.ble ds.length 42 = true) (h : run TSpC gtab (j0 bx) c_paint_each (retG qO (fun d1 bx1 => Rt (j0 bx) bx1 d1 d bx')) ⟨env0 0 ds, bx⟩) : TSpM 150 ds bx d bx' := qI kM c_paint_each qO (fn := Tryz.f150) (by kernel_rfl) (by kernel_rfl) ZV (by kernel_rfl) hn h
def c_paint_painter_1 : C := .reg true [
 ⟨some 7, none, .ld none (.t 2), none⟩,
 ⟨some 8, none, .mv false (.t 0), none⟩,
 ⟨some 9, none, .mv false (.t 1), none⟩,
 ⟨some 10, none, .fld 0 (.t 3), none⟩,
 ⟨some 11, none, .ld none (.t 10), none⟩,
 ⟨some 12, none, .ld none (.t 4), none⟩,
 ⟨some 13, none, .ld none (.t 2), none⟩,
 ⟨some 14, none, .mv false (.t 0), none⟩,
 ⟨some 15, none, .mv false (.t 1), none⟩,
 ⟨some 16, none, .call false 181 [(.t 13), (.t 14), (.t 15)], none⟩,
 ⟨some 17, none, .fld 1 (.t 3), none⟩,
 ⟨some 18, none, .ld none (.t 17), none⟩,
 ⟨some 19, none, .call false 143 [(.t 11), (.t 12), (.t 16), (.t 18)], none⟩,
 ⟨some 20, none, .call true 142 [(.t 7), (.t 8), (.t 9), (.t 19)], none⟩] (some [])
set_option maxRecDepth 1000000 in
theorem JP : (Tryz.f188.body.bind fun code => kF Tryz.prog Tryz.f188.ntmps code c_paint_painter_1) = some c_paint_painter_1.bare := by kernel_rfl
def qJ : List R := []
theorem Ka {ds : List D} {d : D} {bx bx' : List Ent} (hn : Nat.ble ds.length 21 = true) (h : run TSpC gtab (j0 bx) c_paint_painter_1 (retG qJ (fun d1 bx1 => Rt (j0 bx) bx1 d1 d bx')) ⟨env0 0 ds, bx⟩) : TSpM 188 ds bx d bx' := qI kM c_paint_painter_1 qJ (fn := Tryz.f188) (by kernel_rfl) (by kernel_rfl) JP (by kernel_rfl) hn h
def c_region_Xor : C := .seq (.reg false [
 ⟨some 2, none, .box true (.t 0), none⟩,
 ⟨some 3, none, .box true (.t 1), none⟩,
 ⟨some 4, none, .alloc [(.ls 4 [])], none⟩] (some [2, 3, 4])) (
.seq (.reg false [
 ⟨some 5, none, .bld [.nil] [(0, none, (.c (.fn 92 [])))], none⟩,
 ⟨some 6, none, .ld (some 1) (.t 2), none⟩,
 ⟨some 7, none, .ld (some 1) (.t 3), none⟩,
 ⟨some 8, none, .call false 71 [(.t 5), (.t 6), (.t 7)], none⟩,
 ⟨none, none, .st (some 1) (.t 4) (.t 8), none⟩] (some [4])) (
.ret))
set_option maxRecDepth 1000000 in
theorem ZO : (Tryz.f29.body.bind fun code => kF Tryz.prog Tryz.f29.ntmps code c_region_Xor) = some c_region_Xor.bare := by kernel_rfl
def xC : List R := [.cell 4 (some 1)]
theorem Vf {ds : List D} {d : D} (hn : Nat.ble ds.length 9 = true) (h : run TSpC gtab 0 c_region_Xor (retK xC (· = d)) ⟨env0 0 ds, []⟩) : TSp 29 ds d := qn kM c_region_Xor xC (fn := Tryz.f29) (by kernel_rfl) (by kernel_rfl) ZO (by kernel_rfl) hn h
def c_region_Xor_1 : C := .seq (.reg false [
 ⟨some 4, none, .mv false (.c (.bool false)), none⟩] (some [0, 1])) (
.seq (.reg false [
 ⟨some 5, none, .mv false (.t 0), none⟩,
 ⟨some 6, none, .mv false (.t 1), none⟩,
 ⟨some 7, none, .eqb true false (.t 5) (.t 6), none⟩,
 ⟨some 4, none, .mv false (.t 7), none⟩] (some [4])) (
.ret))
set_option maxRecDepth 1000000 in
theorem Qz : (Tryz.f92.body.bind fun code => kF Tryz.prog Tryz.f92.ntmps code c_region_Xor_1) = some c_region_Xor_1.bare := by kernel_rfl
def xM : List R := [.t 4]
theorem QQ {ds : List D} {d : D} (hn : Nat.ble ds.length 8 = true) (h : run TSpC gtab 0 c_region_Xor_1 (retK xM (· = d)) ⟨env0 0 ds, []⟩) : TSp 92 ds d := qn kM c_region_Xor_1 xM (fn := Tryz.f92) (by kernel_rfl) (by kernel_rfl) Qz (by kernel_rfl) hn h
def c_top_edgesPoints : C := .seq (.reg false [
 ⟨some 2, none, .nilS 75 2, none⟩] (some [0])) (
.seq (.reg false [
 ⟨some 3, none, .nilS 75 2, none⟩] (some [0, 3])) (
.seq (.seq (.reg false [
 ⟨some 6, none, .mv false (.t 0), none⟩,
 ⟨some 7, none, .len false (.t 6), none⟩,
 ⟨some 8, none, .mv false (.c (.int .i64 0)), none⟩] (some [3, 6, 7, 8])) (
.blk 0 (
 .loop (
 .seq (.reg false [
 ⟨some 9, none, .bin .lss .i64 (.t 8) (.t 7), none⟩] (some [3, 6, 7, 8, 9])) (
 .seq (.ite (.t 9) (
 .skip) (
 .exit 0)) (
 .seq (.blk 1 (
 .seq (.reg false [
 ⟨some 10, none, .ixs 2 (.t 6) (.t 8), none⟩,
 ⟨some 11, none, .ld (some 2) (.t 10), none⟩,
 ⟨some 5, none, .alloc [(.int .u8 0), (.int .u8 0)], none⟩,
 ⟨none, none, .st (some 2) (.t 5) (.t 11), none⟩] (some [3, 5, 6, 7, 8])) (
 .reg false [
 ⟨some 12, none, .mv false (.t 3), none⟩,
 ⟨some 13, none, .ixa 2 1 (.t 5) (.c (.int .i64 0)), none⟩,
 ⟨some 14, none, .ld none (.t 13), none⟩,
 ⟨some 15, none, .bin .rem .u8 (.t 14) (.c (.int .u8 17)), none⟩,
 ⟨some 16, none, .conv .i64 (.t 15), none⟩,
 ⟨some 17, none, .ixa 2 1 (.t 5) (.c (.int .i64 1)), none⟩,
 ⟨some 18, none, .ld none (.t 17), none⟩,
 ⟨some 19, none, .bin .rem .u8 (.t 18) (.c (.int .u8 17)), none⟩,
 ⟨some 20, none, .conv .i64 (.t 19), none⟩,
 ⟨some 21, none, .bld [(.int .i64 0), (.int .i64 0)] [(0, none, (.t 16)), (1, none, (.t 20))], none⟩,
 ⟨some 22, none, .bsl none 75 2 (some 2) [.t 21], none⟩,
 ⟨some 23, none, .app 75 2 16 (.t 12) (.t 22), none⟩,
 ⟨some 3, none, .mv false (.t 23), none⟩] (some [3, 6, 7, 8])))) (
 .reg false [
 ⟨some 24, none, .bin .add .i64 (.t 8) (.c (.int .i64 1)), none⟩,
 ⟨some 8, none, .mv false (.t 24), none⟩] (some [3, 6, 7, 8])))))))) (
.seq (.reg false [
 ⟨some 25, none, .mv false (.t 3), none⟩,
 ⟨some 2, none, .mv false (.t 25), none⟩] (some [2])) (
.ret))))
set_option maxRecDepth 1000000 in
theorem JK : (Tryz.f25.body.bind fun code => kF Tryz.prog Tryz.f25.ntmps code c_top_edgesPoints) = some c_top_edgesPoints.bare := by kernel_rfl
def qz : List R := [.t 2]
theorem J5 {ds : List D} {d : D} (hn : Nat.ble ds.length 26 = true) (h : run TSpC gtab 0 c_top_edgesPoints (retK qz (· = d)) ⟨env0 0 ds, []⟩) : TSp 25 ds d := qn kM c_top_edgesPoints qz (fn := Tryz.f25) (by kernel_rfl) (by kernel_rfl) JK (by kernel_rfl) hn h
def c_top_edgesOdd : C := .seq (.reg false [
 ⟨some 2, none, .alloc [(.ls 4 [])], none⟩,
 ⟨some 3, none, .mv false (.c (.bool false)), none⟩] (some [0, 2])) (
.seq (.reg false [
 ⟨some 7, none, .mv false (.t 0), none⟩,
 ⟨some 8, none, .call false 90 [(.c (.int .i64 0)), (.t 7)], none⟩,
 ⟨some 6, none, .mv false (.t 8), none⟩,
 ⟨some 9, none, .ext (.t 6) 0, none⟩,
 ⟨some 10, none, .ext (.t 6) 1, none⟩,
 ⟨some 4, none, .alloc [(.ls 4 [])], none⟩,
 ⟨none, none, .st (some 1) (.t 4) (.t 9), none⟩,
 ⟨some 5, none, .mv false (.t 10), none⟩] (some [2, 4, 5])) (
.seq (.reg false [
 ⟨some 11, none, .ld (some 1) (.t 4), none⟩,
 ⟨some 12, none, .mv false (.t 5), none⟩,
 ⟨some 13, none, .bin .eql .i64 (.t 12) (.c (.int .i64 0)), none⟩,
 ⟨none, none, .st (some 1) (.t 2) (.t 11), none⟩,
 ⟨some 3, none, .mv false (.t 13), none⟩] (some [2, 3])) (
.ret)))
set_option maxRecDepth 1000000 in
theorem Qw : (Tryz.f26.body.bind fun code => kF Tryz.prog Tryz.f26.ntmps code c_top_edgesOdd) = some c_top_edgesOdd.bare := by kernel_rfl
def vH : List R := [.cell 2 (some 1), .t 3]
theorem QO {ds : List D} {d : D} (hn : Nat.ble ds.length 14 = true) (h : run TSpC gtab 0 c_top_edgesOdd (retK vH (· = d)) ⟨env0 0 ds, []⟩) : TSp 26 ds d := qn kM c_top_edgesOdd vH (fn := Tryz.f26) (by kernel_rfl) (by kernel_rfl) Qw (by kernel_rfl) hn h
def c_poly_known : C := .seq (.reg false [
 ⟨some 2, none, .mv false (.c (.bool false)), none⟩] (some [0])) (
.seq (.reg false [
 ⟨some 3, none, .mv false (.t 0), none⟩,
 ⟨some 4, none, .bin .eql .i64 (.t 3) (.c (.int .i64 0)), none⟩,
 ⟨some 5, none, .mv false (.t 4), none⟩,
 ⟨some 6, some (5, false), .mv false (.t 0), none⟩,
 ⟨some 7, some (5, false), .bin .eql .i64 (.t 6) (.c (.int .i64 1)), none⟩,
 ⟨some 8, none, .pick (.t 5) (.c (.bool true)) (.t 7), none⟩,
 ⟨some 2, none, .mv false (.t 8), none⟩] (some [2])) (
.ret))
set_option maxRecDepth 1000000 in
theorem ZQ : (Tryz.f145.body.bind fun code => kF Tryz.prog Tryz.f145.ntmps code c_poly_known) = some c_poly_known.bare := by kernel_rfl
def yG : List R := [.t 2]
theorem Vg {ds : List D} {d : D} (hn : Nat.ble ds.length 9 = true) (h : run TSpC gtab 0 c_poly_known (retK yG (· = d)) ⟨env0 0 ds, []⟩) : TSp 145 ds d := qn kM c_poly_known yG (fn := Tryz.f145) (by kernel_rfl) (by kernel_rfl) ZQ (by kernel_rfl) hn h
def c_poly_coord : C := .seq (.reg false [
 ⟨some 2, none, .mv false (.c (.bool false)), none⟩] (some [0])) (
.seq (.reg false [
 ⟨some 3, none, .mv false (.t 0), none⟩,
 ⟨some 4, none, .bin .geq .i64 (.t 3) (.c (.int .i64 (-1048576))), none⟩,
 ⟨some 5, none, .mv false (.t 4), none⟩,
 ⟨some 6, some (5, true), .mv false (.t 0), none⟩,
 ⟨some 7, some (5, true), .bin .leq .i64 (.t 6) (.c (.int .i64 1048576)), none⟩,
 ⟨some 8, none, .pick (.t 5) (.t 7) (.c (.bool false)), none⟩,
 ⟨some 2, none, .mv false (.t 8), none⟩] (some [2])) (
.ret))
set_option maxRecDepth 1000000 in
theorem ZS : (Tryz.f146.body.bind fun code => kF Tryz.prog Tryz.f146.ntmps code c_poly_coord) = some c_poly_coord.bare := by kernel_rfl
def yI : List R := [.t 2]
theorem Vh {ds : List D} {d : D} (hn : Nat.ble ds.length 9 = true) (h : run TSpC gtab 0 c_poly_coord (retK yI (· = d)) ⟨env0 0 ds, []⟩) : TSp 146 ds d := qn kM c_poly_coord yI (fn := Tryz.f146) (by kernel_rfl) (by kernel_rfl) ZS (by kernel_rfl) hn h
def c_poly_rects : C := .seq (.reg false [
 ⟨some 6, none, .nilS 45 4, none⟩] (some [0, 1, 2])) (
.seq (.reg false [
 ⟨some 7, none, .nilS 45 4, none⟩,
 ⟨some 8, none, .nilS 45 4, none⟩] (some [0, 1, 2, 7, 8])) (
.seq (.seq (.reg false [
 ⟨some 12, none, .mv false (.t 0), none⟩,
 ⟨some 9, none, .mv false (.t 12), none⟩] (some [1, 2, 7, 8, 9])) (
.blk 0 (
 .loop (
 .seq (.seq (.reg false [
 ⟨some 13, none, .mv false (.t 9), none⟩,
 ⟨some 14, none, .mv false (.t 1), none⟩,
 ⟨some 15, none, .bin .lss .i64 (.t 13) (.t 14), none⟩] (some [1, 2, 7, 8, 9, 15])) (
 .ite (.t 15) (
 .skip) (
 .exit 0))) (
 .seq (.blk 1 (
 .seq (.reg false [
 ⟨some 18, none, .mv false (.t 2), none⟩,
 ⟨some 19, none, .mv false (.t 9), none⟩,
 ⟨some 20, none, .callv true (.t 18) [.t 19], none⟩,
 ⟨some 10, none, .mv false (.t 20), none⟩] (some [1, 2, 7, 8, 9, 10])) (
 .seq (.seq (.reg false [
 ⟨some 21, none, .mv false (.t 8), none⟩,
 ⟨some 22, none, .mv false (.t 10), none⟩,
 ⟨some 23, none, .call false 129 [(.t 21), (.t 22), (.c (.fn 182 []))], none⟩] (some [1, 2, 7, 8, 9, 10, 23])) (
 .ite (.t 23) (
 .seq (.seq (.reg false [
 ⟨some 24, none, .mv false (.t 8), none⟩,
 ⟨some 25, none, .len false (.t 24), none⟩,
 ⟨some 26, none, .mv false (.c (.int .i64 0)), none⟩] (some [1, 2, 7, 8, 9, 25, 26])) (
 .blk 2 (
 .loop (
 .seq (.reg false [
 ⟨some 27, none, .bin .lss .i64 (.t 26) (.t 25), none⟩] (some [1, 2, 7, 8, 9, 25, 26, 27])) (
 .seq (.ite (.t 27) (
 .skip) (
 .exit 2)) (
 .seq (.blk 3 (
 .seq (.reg false [
 ⟨some 28, none, .mv false (.t 26), none⟩,
 ⟨some 11, none, .mv false (.t 28), none⟩] (some [1, 2, 7, 8, 9, 11, 25, 26])) (
 .reg false [
 ⟨some 29, none, .mv false (.t 8), none⟩,
 ⟨some 30, none, .mv false (.t 11), none⟩,
 ⟨some 31, none, .ixs 4 (.t 29) (.t 30), none⟩,
 ⟨some 32, none, .fld 3 (.t 31), none⟩,
 ⟨some 33, none, .ld none (.t 32), none⟩,
 ⟨some 34, none, .bin .add .i64 (.t 33) (.c (.int .i64 1)), none⟩,
 ⟨some 35, none, .ixs 4 (.t 29) (.t 30), none⟩,
 ⟨some 36, none, .fld 3 (.t 35), none⟩,
 ⟨none, none, .st none (.t 36) (.t 34), none⟩] (some [1, 2, 7, 8, 9, 25, 26])))) (
 .reg false [
 ⟨some 37, none, .bin .add .i64 (.t 26) (.c (.int .i64 1)), none⟩,
 ⟨some 26, none, .mv false (.t 37), none⟩] (some [1, 2, 7, 8, 9, 25, 26])))))))) (
 .exit 1)) (
 .skip))) (
 .seq (.reg false [
 ⟨some 38, none, .mv false (.t 7), none⟩,
 ⟨some 39, none, .mv false (.t 8), none⟩,
 ⟨some 40, none, .app 45 4 32 (.t 38) (.t 39), none⟩,
 ⟨some 7, none, .mv false (.t 40), none⟩] (some [1, 2, 7, 9, 10])) (
 .reg false [
 ⟨some 41, none, .mv false (.t 10), none⟩,
 ⟨some 8, none, .mv false (.t 41), none⟩] (some [1, 2, 7, 8, 9])))))) (
 .reg false [
 ⟨some 16, none, .mv false (.t 9), none⟩,
 ⟨some 17, none, .bin .add .i64 (.t 16) (.c (.int .i64 1)), none⟩,
 ⟨some 9, none, .mv false (.t 17), none⟩] (some [1, 2, 7, 8, 9]))))))) (
.seq (.reg false [
 ⟨some 42, none, .mv false (.t 7), none⟩,
 ⟨some 43, none, .mv false (.t 8), none⟩,
 ⟨some 44, none, .app 45 4 32 (.t 42) (.t 43), none⟩,
 ⟨some 6, none, .mv false (.t 44), none⟩] (some [6])) (
.ret))))
set_option maxRecDepth 1000000 in
theorem ZP : (Tryz.f147.body.bind fun code => kF Tryz.prog Tryz.f147.ntmps code c_poly_rects) = some c_poly_rects.bare := by kernel_rfl
def qb : List R := [.t 6]
theorem Vl {ds : List D} {d : D} {bx bx' : List Ent} (hn : Nat.ble ds.length 45 = true) (h : run TSpC gtab (j0 bx) c_poly_rects (retG qb (fun d1 bx1 => Rt (j0 bx) bx1 d1 d bx')) ⟨env0 0 ds, bx⟩) : TSpM 147 ds bx d bx' := qI kM c_poly_rects qb (fn := Tryz.f147) (by kernel_rfl) (by kernel_rfl) ZP (by kernel_rfl) hn h
def c_poly_Region_1 : C := .seq (.reg false [
 ⟨some 4, none, .nilS 45 4, none⟩] (some [0, 1, 2])) (
.seq (.reg false [
 ⟨some 5, none, .ld none (.t 1), none⟩,
 ⟨some 6, none, .mv false (.t 0), none⟩,
 ⟨some 7, none, .ld none (.t 2), none⟩,
 ⟨some 8, none, .call true 149 [(.t 5), (.t 6), (.t 7)], none⟩,
 ⟨some 4, none, .mv false (.t 8), none⟩] (some [4])) (
.ret))
set_option maxRecDepth 1000000 in
theorem KI : (Tryz.f148.body.bind fun code => kF Tryz.prog Tryz.f148.ntmps code c_poly_Region_1) = some c_poly_Region_1.bare := by kernel_rfl
def vh : List R := [.t 4]
theorem KZ {ds : List D} {d : D} {bx bx' : List Ent} (hn : Nat.ble ds.length 9 = true) (h : run TSpC gtab (j0 bx) c_poly_Region_1 (retG vh (fun d1 bx1 => Rt (j0 bx) bx1 d1 d bx')) ⟨env0 0 ds, bx⟩) : TSpM 148 ds bx d bx' := qI kM c_poly_Region_1 vh (fn := Tryz.f148) (by kernel_rfl) (by kernel_rfl) KI (by kernel_rfl) hn h
def c_poly_row : C := .seq (.reg false [
 ⟨some 4, none, .box false (.t 1), none⟩,
 ⟨some 6, none, .nilS 45 4, none⟩] (some [0, 2, 4, 6])) (
.seq (.reg false [
 ⟨some 7, none, .alloc [(.bsl 285 0 2 0)], none⟩] (some [0, 2, 4, 6, 7])) (
.seq (.seq (.reg false [
 ⟨some 18, none, .mv false (.t 2), none⟩,
 ⟨some 19, none, .call true 183 [.t 18], none⟩] (some [0, 4, 6, 7, 19])) (
.blk 0 (
 .rangef (.t 19) [20, 21] (
 .seq (.reg false [
 ⟨some 8, none, .alloc [(.int .i64 0), (.int .i64 0)], none⟩,
 ⟨none, none, .st (some 2) (.t 8) (.t 20), none⟩] (some [4, 7, 8, 21])) (
 .reg false [
 ⟨some 9, none, .alloc [(.int .i64 0), (.int .i64 0)], none⟩,
 ⟨none, none, .st (some 2) (.t 9) (.t 21), none⟩] (some [4, 7, 8, 9]))) (
 .blk 1 (
 .seq (.reg false [
 ⟨some 23, none, .ld (some 2) (.t 8), none⟩,
 ⟨some 24, none, .ld (some 2) (.t 9), none⟩,
 ⟨some 25, none, .ld none (.t 4), none⟩,
 ⟨some 26, none, .call false 184 [(.t 23), (.t 24), (.t 25)], none⟩,
 ⟨some 22, none, .mv false (.t 26), none⟩,
 ⟨some 27, none, .ext (.t 22) 0, none⟩,
 ⟨some 28, none, .ext (.t 22) 1, none⟩,
 ⟨some 10, none, .alloc [(.int .i64 0), (.int .i64 0)], none⟩,
 ⟨none, none, .st (some 2) (.t 10) (.t 27), none⟩,
 ⟨some 11, none, .mv false (.t 28), none⟩] (some [7, 10, 11])) (
 .seq (.reg false [
 ⟨some 29, none, .mv false (.t 11), none⟩] (some [7, 10, 29])) (
 .ite (.t 29) (
 .reg false [
 ⟨some 30, none, .ld none (.t 7), none⟩,
 ⟨some 31, none, .ld (some 2) (.t 10), none⟩,
 ⟨some 32, none, .bsl none 285 2 (some 2) [.t 31], none⟩,
 ⟨some 33, none, .app 285 2 16 (.t 30) (.t 32), none⟩,
 ⟨none, none, .st none (.t 7) (.t 33), none⟩] (some [])) (
 .skip)))))))) (
.seq (.reg false [
 ⟨some 34, none, .ld none (.t 7), none⟩,
 ⟨some 35, none, .call true 185 [(.t 34), (.c (.fn 186 []))], none⟩] (some [0, 4, 7])) (
.seq (.reg false [
 ⟨some 12, none, .nilS 45 4, none⟩] (some [0, 4, 7, 12])) (
.seq (.reg false [
 ⟨some 13, none, .mv false (.c (.int .i64 0)), none⟩] (some [0, 4, 7, 12, 13])) (
.seq (.seq (.reg false [
 ⟨some 36, none, .ld none (.t 7), none⟩,
 ⟨some 37, none, .len false (.t 36), none⟩,
 ⟨some 38, none, .mv false (.c (.int .i64 0)), none⟩] (some [0, 4, 7, 12, 13, 36, 37, 38])) (
.blk 2 (
 .loop (
 .seq (.reg false [
 ⟨some 39, none, .bin .lss .i64 (.t 38) (.t 37), none⟩] (some [0, 4, 7, 12, 13, 36, 37, 38, 39])) (
 .seq (.ite (.t 39) (
 .skip) (
 .exit 2)) (
 .seq (.blk 3 (
 .seq (.reg false [
 ⟨some 40, none, .mv false (.t 38), none⟩,
 ⟨some 41, none, .ixs 2 (.t 36) (.t 38), none⟩,
 ⟨some 42, none, .ld (some 2) (.t 41), none⟩,
 ⟨some 15, none, .alloc [(.int .i64 0), (.int .i64 0)], none⟩,
 ⟨some 14, none, .mv false (.t 40), none⟩,
 ⟨none, none, .st (some 2) (.t 15) (.t 42), none⟩] (some [0, 4, 7, 12, 13, 14, 15, 36, 37, 38])) (
 .seq (.reg false [
 ⟨some 43, none, .mv false (.t 13), none⟩,
 ⟨some 44, none, .fld 1 (.t 15), none⟩,
 ⟨some 45, none, .ld none (.t 44), none⟩,
 ⟨some 46, none, .bin .add .i64 (.t 43) (.t 45), none⟩,
 ⟨some 13, none, .mv false (.t 46), none⟩] (some [0, 4, 7, 12, 13, 14, 15, 36, 37, 38])) (
 .seq (.seq (.reg true [
 ⟨some 47, none, .mv false (.t 14), none⟩,
 ⟨some 48, none, .bin .add .i64 (.t 47) (.c (.int .i64 1)), none⟩,
 ⟨some 49, none, .ld none (.t 7), none⟩,
 ⟨some 50, none, .len false (.t 49), none⟩,
 ⟨some 51, none, .bin .eql .i64 (.t 48) (.t 50), none⟩,
 ⟨some 52, none, .mv false (.t 51), none⟩,
 ⟨some 53, some (52, false), .ld none (.t 7), none⟩,
 ⟨some 54, some (52, false), .mv false (.t 14), none⟩,
 ⟨some 55, some (52, false), .bin .add .i64 (.t 54) (.c (.int .i64 1)), none⟩,
 ⟨some 56, some (52, false), .ixs 2 (.t 53) (.t 55), none⟩,
 ⟨some 57, some (52, false), .fld 0 (.t 56), none⟩,
 ⟨some 58, some (52, false), .ld none (.t 57), none⟩,
 ⟨some 59, some (52, false), .fld 0 (.t 15), none⟩,
 ⟨some 60, some (52, false), .ld none (.t 59), none⟩,
 ⟨some 61, some (52, false), .bin .eql .i64 (.t 58) (.t 60), none⟩,
 ⟨some 62, none, .pick (.t 52) (.c (.bool true)) (.t 61), none⟩,
 ⟨some 63, none, .mv false (.t 62), none⟩,
 ⟨some 64, some (63, false), .mv false (.t 0), none⟩,
 ⟨some 65, some (63, false), .mv false (.t 13), none⟩,
 ⟨some 66, some (63, false), .call false 187 [(.t 64), (.t 65)], none⟩,
 ⟨some 67, some (63, false), .not (.t 66), none⟩,
 ⟨some 68, none, .pick (.t 63) (.c (.bool true)) (.t 67), none⟩] (some [0, 4, 7, 12, 13, 14, 15, 36, 37, 38, 68])) (
 .ite (.t 68) (
 .exit 3) (
 .skip))) (
 .seq (.reg true [
 ⟨some 69, none, .ld none (.t 7), none⟩,
 ⟨some 70, none, .mv false (.t 14), none⟩,
 ⟨some 71, none, .bin .add .i64 (.t 70) (.c (.int .i64 1)), none⟩,
 ⟨some 72, none, .ixs 2 (.t 69) (.t 71), none⟩,
 ⟨some 73, none, .fld 0 (.t 72), none⟩,
 ⟨some 74, none, .ld none (.t 73), none⟩,
 ⟨some 75, none, .fld 0 (.t 15), none⟩,
 ⟨some 76, none, .ld none (.t 75), none⟩,
 ⟨some 77, none, .bin .sub .i64 (.t 74) (.t 76), none⟩,
 ⟨some 16, none, .mv false (.t 77), none⟩] (some [0, 4, 7, 12, 13, 15, 16, 36, 37, 38])) (
 .seq (.seq (.reg false [
 ⟨some 78, none, .mv false (.t 12), none⟩,
 ⟨some 79, none, .len false (.t 78), none⟩,
 ⟨some 17, none, .mv false (.t 79), none⟩] (some [0, 4, 7, 12, 13, 15, 16, 17, 36, 37, 38])) (
 .seq (.reg true [
 ⟨some 80, none, .mv false (.t 17), none⟩,
 ⟨some 81, none, .bin .gtr .i64 (.t 80) (.c (.int .i64 0)), none⟩,
 ⟨some 82, none, .mv false (.t 81), none⟩,
 ⟨some 83, some (82, true), .mv false (.t 12), none⟩,
 ⟨some 84, some (82, true), .mv false (.t 17), none⟩,
 ⟨some 85, some (82, true), .bin .sub .i64 (.t 84) (.c (.int .i64 1)), none⟩,
 ⟨some 86, some (82, true), .ixs 4 (.t 83) (.t 85), none⟩,
 ⟨some 87, some (82, true), .fld 0 (.t 86), none⟩,
 ⟨some 88, some (82, true), .ld none (.t 87), none⟩,
 ⟨some 89, some (82, true), .mv false (.t 12), none⟩,
 ⟨some 90, some (82, true), .mv false (.t 17), none⟩,
 ⟨some 91, some (82, true), .bin .sub .i64 (.t 90) (.c (.int .i64 1)), none⟩,
 ⟨some 92, some (82, true), .ixs 4 (.t 89) (.t 91), none⟩,
 ⟨some 93, some (82, true), .fld 2 (.t 92), none⟩,
 ⟨some 94, some (82, true), .ld none (.t 93), none⟩,
 ⟨some 95, some (82, true), .bin .add .i64 (.t 88) (.t 94), none⟩,
 ⟨some 96, some (82, true), .fld 0 (.t 15), none⟩,
 ⟨some 97, some (82, true), .ld none (.t 96), none⟩,
 ⟨some 98, some (82, true), .bin .eql .i64 (.t 95) (.t 97), none⟩,
 ⟨some 99, none, .pick (.t 82) (.t 98) (.c (.bool false)), none⟩] (some [0, 4, 7, 12, 13, 15, 16, 17, 36, 37, 38, 99])) (
 .ite (.t 99) (
 .seq (.reg false [
 ⟨some 100, none, .mv false (.t 12), none⟩,
 ⟨some 101, none, .mv false (.t 17), none⟩,
 ⟨some 102, none, .bin .sub .i64 (.t 101) (.c (.int .i64 1)), none⟩,
 ⟨some 103, none, .ixs 4 (.t 100) (.t 102), none⟩,
 ⟨some 104, none, .fld 2 (.t 103), none⟩,
 ⟨some 105, none, .ld none (.t 104), none⟩,
 ⟨some 106, none, .mv false (.t 16), none⟩,
 ⟨some 107, none, .bin .add .i64 (.t 105) (.t 106), none⟩,
 ⟨some 108, none, .ixs 4 (.t 100) (.t 102), none⟩,
 ⟨some 109, none, .fld 2 (.t 108), none⟩,
 ⟨none, none, .st none (.t 109) (.t 107), none⟩] (some [0, 4, 7, 12, 13, 36, 37, 38])) (
 .exit 3)) (
 .skip)))) (
 .reg false [
 ⟨some 110, none, .mv false (.t 12), none⟩,
 ⟨some 111, none, .fld 0 (.t 15), none⟩,
 ⟨some 112, none, .ld none (.t 111), none⟩,
 ⟨some 113, none, .ld none (.t 4), none⟩,
 ⟨some 114, none, .mv false (.t 16), none⟩,
 ⟨some 115, none, .bld [(.int .i64 0), (.int .i64 0), (.int .i64 0), (.int .i64 0)] [(0, none, (.t 112)), (1, none, (.t 113)), (2, none, (.t 114)), (3, none, (.c (.int .i64 1)))], none⟩,
 ⟨some 116, none, .bsl none 45 4 (some 4) [.t 115], none⟩,
 ⟨some 117, none, .app 45 4 32 (.t 110) (.t 116), none⟩,
 ⟨some 12, none, .mv false (.t 117), none⟩] (some [0, 4, 7, 12, 13, 36, 37, 38])))))))) (
 .reg false [
 ⟨some 118, none, .bin .add .i64 (.t 38) (.c (.int .i64 1)), none⟩,
 ⟨some 38, none, .mv false (.t 118), none⟩] (some [0, 4, 7, 12, 13, 36, 37, 38])))))))) (
.seq (.reg false [
 ⟨some 119, none, .mv false (.t 12), none⟩,
 ⟨some 6, none, .mv false (.t 119), none⟩] (some [6])) (
.ret))))))))
set_option maxRecDepth 1000000 in
theorem XB : (Tryz.f149.body.bind fun code => kF Tryz.prog Tryz.f149.ntmps code c_poly_row) = some c_poly_row.bare := by kernel_rfl
def qk : List R := [.t 6]
theorem Yv {ds : List D} {d : D} {bx bx' : List Ent} (hn : Nat.ble ds.length 120 = true) (h : run TSpC gtab (j0 bx) c_poly_row (retG qk (fun d1 bx1 => Rt (j0 bx) bx1 d1 d bx')) ⟨env0 0 ds, bx⟩) : TSpM 149 ds bx d bx' := qI kM c_poly_row qk (fn := Tryz.f149) (by kernel_rfl) (by kernel_rfl) XB (by kernel_rfl) hn h
def c_poly_rects_1 : C := .seq (.reg false [
 ⟨some 2, none, .box true (.t 0), none⟩,
 ⟨some 3, none, .box true (.t 1), none⟩,
 ⟨some 4, none, .mv false (.c (.bool false)), none⟩] (some [2, 3])) (
.seq (.reg false [
 ⟨some 5, none, .fld 0 (.t 2), none⟩,
 ⟨some 6, none, .ld none (.t 5), none⟩,
 ⟨some 7, none, .fld 0 (.t 3), none⟩,
 ⟨some 8, none, .ld none (.t 7), none⟩,
 ⟨some 9, none, .bin .eql .i64 (.t 6) (.t 8), none⟩,
 ⟨some 10, none, .mv false (.t 9), none⟩,
 ⟨some 11, some (10, true), .fld 2 (.t 2), none⟩,
 ⟨some 12, some (10, true), .ld none (.t 11), none⟩,
 ⟨some 13, some (10, true), .fld 2 (.t 3), none⟩,
 ⟨some 14, some (10, true), .ld none (.t 13), none⟩,
 ⟨some 15, some (10, true), .bin .eql .i64 (.t 12) (.t 14), none⟩,
 ⟨some 16, none, .pick (.t 10) (.t 15) (.c (.bool false)), none⟩,
 ⟨some 4, none, .mv false (.t 16), none⟩] (some [4])) (
.ret))
set_option maxRecDepth 1000000 in
theorem QA : (Tryz.f182.body.bind fun code => kF Tryz.prog Tryz.f182.ntmps code c_poly_rects_1) = some c_poly_rects_1.bare := by kernel_rfl
def xN : List R := [.t 4]
theorem QR {ds : List D} {d : D} (hn : Nat.ble ds.length 17 = true) (h : run TSpC gtab 0 c_poly_rects_1 (retK xN (· = d)) ⟨env0 0 ds, []⟩) : TSp 182 ds d := qn kM c_poly_rects_1 xN (fn := Tryz.f182) (by kernel_rfl) (by kernel_rfl) QA (by kernel_rfl) hn h
def c_poly_edges : C := .seq (.reg false [
 ⟨some 1, none, .box false (.t 0), none⟩,
 ⟨some 2, none, .mv false (.c .nil), none⟩] (some [1])) (
.seq (.reg false [
 ⟨some 3, none, .clo 212 [.t 1], none⟩,
 ⟨some 2, none, .mv false (.t 3), none⟩] (some [2])) (
.ret))
set_option maxRecDepth 1000000 in
theorem ZR : (Tryz.f183.body.bind fun code => kF Tryz.prog Tryz.f183.ntmps code c_poly_edges) = some c_poly_edges.bare := by kernel_rfl
def yH : List R := [.t 2]
theorem Vm {ds : List D} {d : D} {bx bx' : List Ent} (hn : Nat.ble ds.length 4 = true) (h : run TSpC gtab (j0 bx) c_poly_edges (retG yH (fun d1 bx1 => Rt (j0 bx) bx1 d1 d bx')) ⟨env0 0 ds, bx⟩) : TSpM 183 ds bx d bx' := qI kM c_poly_edges yH (fn := Tryz.f183) (by kernel_rfl) (by kernel_rfl) ZR (by kernel_rfl) hn h
def c_poly_passes : C := .seq (.reg false [
 ⟨some 3, none, .box true (.t 0), none⟩,
 ⟨some 4, none, .box true (.t 1), none⟩,
 ⟨some 6, none, .alloc [(.int .i64 0), (.int .i64 0)], none⟩,
 ⟨some 7, none, .mv false (.c (.bool false)), none⟩] (some [2, 3, 4, 6])) (
.seq (.reg false [
 ⟨some 8, none, .mv false (.c (.int .i64 1)), none⟩] (some [2, 3, 4, 6, 8])) (
.seq (.seq (.reg false [
 ⟨some 14, none, .fld 1 (.t 3), none⟩,
 ⟨some 15, none, .ld none (.t 14), none⟩,
 ⟨some 16, none, .fld 1 (.t 4), none⟩,
 ⟨some 17, none, .ld none (.t 16), none⟩,
 ⟨some 18, none, .bin .gtr .i64 (.t 15) (.t 17), none⟩] (some [2, 3, 4, 6, 8, 18])) (
.ite (.t 18) (
 .reg false [
 ⟨some 19, none, .ld (some 2) (.t 4), none⟩,
 ⟨some 20, none, .ld (some 2) (.t 3), none⟩,
 ⟨none, none, .st (some 2) (.t 3) (.t 19), none⟩,
 ⟨none, none, .st (some 2) (.t 4) (.t 20), none⟩,
 ⟨some 8, none, .mv false (.c (.int .i64 (-1))), none⟩] (some [2, 3, 4, 6, 8])) (
 .skip))) (
.seq (.seq (.reg false [
 ⟨some 21, none, .mv false (.t 2), none⟩,
 ⟨some 22, none, .fld 1 (.t 3), none⟩,
 ⟨some 23, none, .ld none (.t 22), none⟩,
 ⟨some 24, none, .bin .lss .i64 (.t 21) (.t 23), none⟩,
 ⟨some 25, none, .mv false (.t 24), none⟩,
 ⟨some 26, some (25, false), .mv false (.t 2), none⟩,
 ⟨some 27, some (25, false), .fld 1 (.t 4), none⟩,
 ⟨some 28, some (25, false), .ld none (.t 27), none⟩,
 ⟨some 29, some (25, false), .bin .geq .i64 (.t 26) (.t 28), none⟩,
 ⟨some 30, none, .pick (.t 25) (.c (.bool true)) (.t 29), none⟩] (some [2, 3, 4, 6, 8, 30])) (
.ite (.t 30) (
 .seq (.reg false [
 ⟨some 31, none, .bld [(.int .i64 0), (.int .i64 0)] [], none⟩,
 ⟨none, none, .st (some 2) (.t 6) (.t 31), none⟩,
 ⟨some 7, none, .mv false (.c (.bool false)), none⟩] (some [6, 7])) (
 .ret)) (
 .skip))) (
.seq (.reg true [
 ⟨some 32, none, .fld 0 (.t 4), none⟩,
 ⟨some 33, none, .ld none (.t 32), none⟩,
 ⟨some 34, none, .fld 0 (.t 3), none⟩,
 ⟨some 35, none, .ld none (.t 34), none⟩,
 ⟨some 36, none, .bin .sub .i64 (.t 33) (.t 35), none⟩,
 ⟨some 37, none, .fld 1 (.t 4), none⟩,
 ⟨some 38, none, .ld none (.t 37), none⟩,
 ⟨some 39, none, .fld 1 (.t 3), none⟩,
 ⟨some 40, none, .ld none (.t 39), none⟩,
 ⟨some 41, none, .bin .sub .i64 (.t 38) (.t 40), none⟩,
 ⟨some 9, none, .mv false (.t 36), none⟩,
 ⟨some 10, none, .mv false (.t 41), none⟩] (some [2, 3, 6, 8, 9, 10])) (
.seq (.reg false [
 ⟨some 42, none, .mv false (.t 9), none⟩,
 ⟨some 43, none, .mv false (.t 2), none⟩,
 ⟨some 44, none, .fld 1 (.t 3), none⟩,
 ⟨some 45, none, .ld none (.t 44), none⟩,
 ⟨some 46, none, .bin .sub .i64 (.t 43) (.t 45), none⟩,
 ⟨some 47, none, .bin .mul .i64 (.c (.int .i64 2)) (.t 46), none⟩,
 ⟨some 48, none, .bin .add .i64 (.t 47) (.c (.int .i64 1)), none⟩,
 ⟨some 49, none, .bin .mul .i64 (.t 42) (.t 48), none⟩,
 ⟨some 50, none, .mv false (.t 10), none⟩,
 ⟨some 51, none, .bin .sub .i64 (.t 49) (.t 50), none⟩,
 ⟨some 52, none, .mv false (.t 10), none⟩,
 ⟨some 53, none, .bin .mul .i64 (.c (.int .i64 2)) (.t 52), none⟩,
 ⟨some 11, none, .mv false (.t 51), none⟩,
 ⟨some 12, none, .mv false (.t 53), none⟩] (some [3, 6, 8, 11, 12])) (
.seq (.reg false [
 ⟨some 54, none, .mv false (.t 11), none⟩,
 ⟨some 55, none, .mv false (.t 12), none⟩,
 ⟨some 56, none, .prm false false (.tdv false 3 3) [(.t 54), (.t 55)], none⟩,
 ⟨some 13, none, .mv false (.t 56), none⟩] (some [3, 6, 8, 11, 12, 13])) (
.seq (.seq (.reg false [
 ⟨some 57, none, .mv false (.t 11), none⟩,
 ⟨some 58, none, .mv false (.t 12), none⟩,
 ⟨some 59, none, .prm false false (.tdv true 3 3) [(.t 57), (.t 58)], none⟩,
 ⟨some 60, none, .bin .gtr .i64 (.t 59) (.c (.int .i64 0)), none⟩] (some [3, 6, 8, 13, 60])) (
.ite (.t 60) (
 .reg false [
 ⟨some 61, none, .mv false (.t 13), none⟩,
 ⟨some 62, none, .bin .add .i64 (.t 61) (.c (.int .i64 1)), none⟩,
 ⟨some 13, none, .mv false (.t 62), none⟩] (some [3, 6, 8, 13])) (
 .skip))) (
.seq (.reg false [
 ⟨some 63, none, .fld 0 (.t 3), none⟩,
 ⟨some 64, none, .ld none (.t 63), none⟩,
 ⟨some 65, none, .mv false (.t 13), none⟩,
 ⟨some 66, none, .bin .add .i64 (.t 64) (.t 65), none⟩,
 ⟨some 67, none, .mv false (.t 8), none⟩,
 ⟨some 68, none, .bld [(.int .i64 0), (.int .i64 0)] [(0, none, (.t 66)), (1, none, (.t 67))], none⟩,
 ⟨none, none, .st (some 2) (.t 6) (.t 68), none⟩,
 ⟨some 7, none, .mv false (.c (.bool true)), none⟩] (some [6, 7])) (
.ret)))))))))
set_option maxRecDepth 1000000 in
theorem Ze : (Tryz.f184.body.bind fun code => kF Tryz.prog Tryz.f184.ntmps code c_poly_passes) = some c_poly_passes.bare := by kernel_rfl
def zi : List R := [.cell 6 (some 2), .t 7]
theorem ZI {ds : List D} {d : D} (hn : Nat.ble ds.length 69 = true) (h : run TSpC gtab 0 c_poly_passes (retK zi (· = d)) ⟨env0 0 ds, []⟩) : TSp 184 ds d := qn kM c_poly_passes zi (fn := Tryz.f184) (by kernel_rfl) (by kernel_rfl) Ze (by kernel_rfl) hn h
def c_poly_inside : C := .seq (.reg false [
 ⟨some 4, none, .mv false (.c (.bool false)), none⟩] (some [0, 1])) (
.seq (.seq (.reg false [
 ⟨some 5, none, .mv false (.t 0), none⟩,
 ⟨some 6, none, .bin .eql .i64 (.t 5) (.c (.int .i64 0)), none⟩] (some [1, 6])) (
.ite (.t 6) (
 .seq (.reg false [
 ⟨some 7, none, .mv false (.t 1), none⟩,
 ⟨some 8, none, .prm false false (.tdv true 3 3) [(.t 7), (.c (.int .i64 2))], none⟩,
 ⟨some 9, none, .bin .neq .i64 (.t 8) (.c (.int .i64 0)), none⟩,
 ⟨some 4, none, .mv false (.t 9), none⟩] (some [4])) (
 .ret)) (
 .skip))) (
.seq (.reg false [
 ⟨some 10, none, .mv false (.t 1), none⟩,
 ⟨some 11, none, .bin .neq .i64 (.t 10) (.c (.int .i64 0)), none⟩,
 ⟨some 4, none, .mv false (.t 11), none⟩] (some [4])) (
.ret)))
set_option maxRecDepth 1000000 in
theorem Zf : (Tryz.f187.body.bind fun code => kF Tryz.prog Tryz.f187.ntmps code c_poly_inside) = some c_poly_inside.bare := by kernel_rfl
def v7 : List R := [.t 4]
theorem ZJ {ds : List D} {d : D} (hn : Nat.ble ds.length 12 = true) (h : run TSpC gtab 0 c_poly_inside (retK v7 (· = d)) ⟨env0 0 ds, []⟩) : TSp 187 ds d := qn kM c_poly_inside v7 (fn := Tryz.f187) (by kernel_rfl) (by kernel_rfl) Zf (by kernel_rfl) hn h
def c_poly_edges_1 : C := .seq (.reg false [
 ⟨some 5, none, .ld none (.t 1), none⟩,
 ⟨some 6, none, .len false (.t 5), none⟩,
 ⟨some 7, none, .mv false (.c (.int .i64 0)), none⟩] (some [0, 1, 5, 6, 7])) (
.blk 0 (
 .loop (
 .seq (.reg false [
 ⟨some 8, none, .bin .lss .i64 (.t 7) (.t 6), none⟩] (some [0, 1, 5, 6, 7, 8])) (
 .seq (.ite (.t 8) (
 .skip) (
 .exit 0)) (
 .seq (.blk 1 (
 .seq (.reg false [
 ⟨some 9, none, .mv false (.t 7), none⟩,
 ⟨some 10, none, .ixs 2 (.t 5) (.t 7), none⟩,
 ⟨some 11, none, .ld (some 2) (.t 10), none⟩,
 ⟨some 4, none, .alloc [(.int .i64 0), (.int .i64 0)], none⟩,
 ⟨some 3, none, .mv false (.t 9), none⟩,
 ⟨none, none, .st (some 2) (.t 4) (.t 11), none⟩] (some [0, 1, 3, 4, 5, 6, 7])) (
 .seq (.reg true [
 ⟨some 12, none, .mv false (.t 0), none⟩,
 ⟨some 13, none, .ld (some 2) (.t 4), none⟩,
 ⟨some 14, none, .ld none (.t 1), none⟩,
 ⟨some 15, none, .mv false (.t 3), none⟩,
 ⟨some 16, none, .bin .add .i64 (.t 15) (.c (.int .i64 1)), none⟩,
 ⟨some 17, none, .ld none (.t 1), none⟩,
 ⟨some 18, none, .len false (.t 17), none⟩,
 ⟨some 19, none, .bin .rem .i64 (.t 16) (.t 18), none⟩,
 ⟨some 20, none, .ixs 2 (.t 14) (.t 19), none⟩,
 ⟨some 21, none, .ld (some 2) (.t 20), none⟩,
 ⟨some 22, none, .prm false true (.yld [75, 75]) [(.t 12), (.t 13), (.t 21)], none⟩,
 ⟨some 23, none, .not (.t 22), none⟩] (some [0, 1, 5, 6, 7, 23])) (
 .ite (.t 23) (
 .ret) (
 .skip))))) (
 .reg false [
 ⟨some 24, none, .bin .add .i64 (.t 7) (.c (.int .i64 1)), none⟩,
 ⟨some 7, none, .mv false (.t 24), none⟩] (some [0, 1, 5, 6, 7])))))))
set_option maxRecDepth 1000000 in
theorem QB : (Tryz.f212.body.bind fun code => kF Tryz.prog Tryz.f212.ntmps code c_poly_edges_1) = some c_poly_edges_1.bare := by kernel_rfl
def qS : List R := []
def c_poly_Region : C := .seq (.reg false [
 ⟨some 2, none, .box false (.t 0), none⟩,
 ⟨some 3, none, .box false (.t 1), none⟩,
 ⟨some 4, none, .alloc [(.ls 4 [])], none⟩,
 ⟨some 5, none, .mv false (.c (.int .i64 0)), none⟩] (some [2, 3, 4])) (
.seq (.seq (.reg false [
 ⟨some 12, none, .ld none (.t 2), none⟩,
 ⟨some 13, none, .call false 145 [.t 12], none⟩,
 ⟨some 14, none, .not (.t 13), none⟩] (some [2, 3, 4, 14])) (
.ite (.t 14) (
 .seq (.reg false [
 ⟨some 15, none, .bld [(.ls 4 [])] [], none⟩,
 ⟨none, none, .st (some 1) (.t 4) (.t 15), none⟩,
 ⟨some 5, none, .mv false (.c (.int .i64 10)), none⟩] (some [4, 5])) (
 .ret)) (
 .skip))) (
.seq (.seq (.reg false [
 ⟨some 16, none, .ld none (.t 3), none⟩,
 ⟨some 17, none, .len false (.t 16), none⟩,
 ⟨some 18, none, .bin .gtr .i64 (.t 17) (.c (.int .i64 256)), none⟩] (some [2, 3, 4, 18])) (
.ite (.t 18) (
 .seq (.reg false [
 ⟨some 19, none, .bld [(.ls 4 [])] [], none⟩,
 ⟨none, none, .st (some 1) (.t 4) (.t 19), none⟩,
 ⟨some 5, none, .mv false (.c (.int .i64 5)), none⟩] (some [4, 5])) (
 .ret)) (
 .skip))) (
.seq (.seq (.reg false [
 ⟨some 20, none, .ld none (.t 3), none⟩,
 ⟨some 21, none, .len false (.t 20), none⟩,
 ⟨some 22, none, .mv false (.c (.int .i64 0)), none⟩] (some [2, 3, 4, 20, 21, 22])) (
.blk 0 (
 .loop (
 .seq (.reg false [
 ⟨some 23, none, .bin .lss .i64 (.t 22) (.t 21), none⟩] (some [2, 3, 4, 20, 21, 22, 23])) (
 .seq (.ite (.t 23) (
 .skip) (
 .exit 0)) (
 .seq (.blk 1 (
 .seq (.reg false [
 ⟨some 24, none, .ixs 2 (.t 20) (.t 22), none⟩,
 ⟨some 25, none, .ld (some 2) (.t 24), none⟩,
 ⟨some 7, none, .alloc [(.int .i64 0), (.int .i64 0)], none⟩,
 ⟨none, none, .st (some 2) (.t 7) (.t 25), none⟩] (some [2, 3, 4, 7, 20, 21, 22])) (
 .seq (.reg false [
 ⟨some 26, none, .fld 0 (.t 7), none⟩,
 ⟨some 27, none, .ld none (.t 26), none⟩,
 ⟨some 28, none, .call false 146 [.t 27], none⟩,
 ⟨some 29, none, .not (.t 28), none⟩,
 ⟨some 30, none, .mv false (.t 29), none⟩,
 ⟨some 31, some (30, false), .fld 1 (.t 7), none⟩,
 ⟨some 32, some (30, false), .ld none (.t 31), none⟩,
 ⟨some 33, some (30, false), .call false 146 [.t 32], none⟩,
 ⟨some 34, some (30, false), .not (.t 33), none⟩,
 ⟨some 35, none, .pick (.t 30) (.c (.bool true)) (.t 34), none⟩] (some [2, 3, 4, 20, 21, 22, 35])) (
 .ite (.t 35) (
 .seq (.reg false [
 ⟨some 36, none, .bld [(.ls 4 [])] [], none⟩,
 ⟨none, none, .st (some 1) (.t 4) (.t 36), none⟩,
 ⟨some 5, none, .mv false (.c (.int .i64 1)), none⟩] (some [4, 5])) (
 .ret)) (
 .skip))))) (
 .reg false [
 ⟨some 37, none, .bin .add .i64 (.t 22) (.c (.int .i64 1)), none⟩,
 ⟨some 22, none, .mv false (.t 37), none⟩] (some [2, 3, 4, 20, 21, 22])))))))) (
.seq (.seq (.reg false [
 ⟨some 38, none, .ld none (.t 3), none⟩,
 ⟨some 39, none, .len false (.t 38), none⟩,
 ⟨some 40, none, .bin .eql .i64 (.t 39) (.c (.int .i64 0)), none⟩] (some [2, 3, 4, 40])) (
.ite (.t 40) (
 .seq (.reg false [
 ⟨some 41, none, .bld [(.ls 4 [])] [], none⟩,
 ⟨none, none, .st (some 1) (.t 4) (.t 41), none⟩,
 ⟨some 5, none, .mv false (.c (.int .i64 0)), none⟩] (some [4, 5])) (
 .ret)) (
 .skip))) (
.seq (.reg true [
 ⟨some 42, none, .ld none (.t 3), some [1]⟩,
 ⟨some 43, none, .ixs 2 (.t 42) (.c (.int .i64 0)), some []⟩,
 ⟨some 44, none, .ld (some 2) (.t 43), some []⟩,
 ⟨some 45, none, .ld none (.t 3), some [1]⟩,
 ⟨some 46, none, .ixs 2 (.t 45) (.c (.int .i64 0)), some []⟩,
 ⟨some 47, none, .ld (some 2) (.t 46), some []⟩,
 ⟨some 8, none, .alloc [(.int .i64 0), (.int .i64 0)], some [3, 4]⟩,
 ⟨some 9, none, .alloc [(.int .i64 0), (.int .i64 0)], some [3, 4]⟩,
 ⟨none, none, .st (some 2) (.t 8) (.t 44), some [3]⟩,
 ⟨none, none, .st (some 2) (.t 9) (.t 47), some [4]⟩] (some [2, 3, 4, 8, 9])) (
.seq (.seq (.reg false [
 ⟨some 48, none, .ld none (.t 3), none⟩,
 ⟨some 49, none, .len false (.t 48), none⟩,
 ⟨some 50, none, .mv false (.c (.int .i64 0)), none⟩] (some [2, 3, 4, 8, 9, 48, 49, 50])) (
.blk 2 (
 .loop (
 .seq (.reg false [
 ⟨some 51, none, .bin .lss .i64 (.t 50) (.t 49), none⟩] (some [2, 3, 4, 8, 9, 48, 49, 50, 51])) (
 .seq (.ite (.t 51) (
 .skip) (
 .exit 2)) (
 .seq (.blk 3 (
 .seq (.reg false [
 ⟨some 52, none, .ixs 2 (.t 48) (.t 50), none⟩,
 ⟨some 53, none, .ld (some 2) (.t 52), none⟩,
 ⟨some 11, none, .alloc [(.int .i64 0), (.int .i64 0)], none⟩,
 ⟨none, none, .st (some 2) (.t 11) (.t 53), none⟩] (some [2, 3, 4, 8, 9, 11, 48, 49, 50])) (
 .seq (.reg true [
 ⟨some 54, none, .fld 0 (.t 8), none⟩,
 ⟨some 55, none, .ld none (.t 54), some [3]⟩,
 ⟨some 56, none, .fld 0 (.t 11), none⟩,
 ⟨some 57, none, .ld none (.t 56), some [5]⟩,
 ⟨some 58, none, .mn (.t 55) (.t 57), none⟩,
 ⟨some 59, none, .fld 1 (.t 8), none⟩,
 ⟨some 60, none, .ld none (.t 59), some [3]⟩,
 ⟨some 61, none, .fld 1 (.t 11), none⟩,
 ⟨some 62, none, .ld none (.t 61), some [5]⟩,
 ⟨some 63, none, .mn (.t 60) (.t 62), none⟩,
 ⟨some 64, none, .fld 0 (.t 8), none⟩,
 ⟨none, none, .st none (.t 64) (.t 58), some [3]⟩,
 ⟨some 65, none, .fld 1 (.t 8), none⟩,
 ⟨none, none, .st none (.t 65) (.t 63), some [3]⟩] (some [2, 3, 4, 8, 9, 11, 48, 49, 50])) (
 .reg true [
 ⟨some 66, none, .fld 0 (.t 9), none⟩,
 ⟨some 67, none, .ld none (.t 66), some [4]⟩,
 ⟨some 68, none, .fld 0 (.t 11), none⟩,
 ⟨some 69, none, .ld none (.t 68), some [5]⟩,
 ⟨some 70, none, .mx (.t 67) (.t 69), none⟩,
 ⟨some 71, none, .fld 1 (.t 9), none⟩,
 ⟨some 72, none, .ld none (.t 71), some [4]⟩,
 ⟨some 73, none, .fld 1 (.t 11), none⟩,
 ⟨some 74, none, .ld none (.t 73), some [5]⟩,
 ⟨some 75, none, .mx (.t 72) (.t 74), none⟩,
 ⟨some 76, none, .fld 0 (.t 9), none⟩,
 ⟨none, none, .st none (.t 76) (.t 70), some [4]⟩,
 ⟨some 77, none, .fld 1 (.t 9), none⟩,
 ⟨none, none, .st none (.t 77) (.t 75), some [4]⟩] (some [2, 3, 4, 8, 9, 48, 49, 50]))))) (
 .reg false [
 ⟨some 78, none, .bin .add .i64 (.t 50) (.c (.int .i64 1)), none⟩,
 ⟨some 50, none, .mv false (.t 78), none⟩] (some [2, 3, 4, 8, 9, 48, 49, 50])))))))) (
.seq (.seq (.reg false [
 ⟨some 79, none, .fld 0 (.t 9), none⟩,
 ⟨some 80, none, .ld none (.t 79), none⟩,
 ⟨some 81, none, .fld 0 (.t 8), none⟩,
 ⟨some 82, none, .ld none (.t 81), none⟩,
 ⟨some 83, none, .bin .sub .i64 (.t 80) (.t 82), none⟩,
 ⟨some 84, none, .bin .gtr .i64 (.t 83) (.c (.int .i64 4096)), none⟩,
 ⟨some 85, none, .mv false (.t 84), none⟩,
 ⟨some 86, some (85, false), .fld 1 (.t 9), none⟩,
 ⟨some 87, some (85, false), .ld none (.t 86), none⟩,
 ⟨some 88, some (85, false), .fld 1 (.t 8), none⟩,
 ⟨some 89, some (85, false), .ld none (.t 88), none⟩,
 ⟨some 90, some (85, false), .bin .sub .i64 (.t 87) (.t 89), none⟩,
 ⟨some 91, some (85, false), .bin .gtr .i64 (.t 90) (.c (.int .i64 4096)), none⟩,
 ⟨some 92, none, .pick (.t 85) (.c (.bool true)) (.t 91), none⟩] (some [2, 3, 4, 8, 9, 92])) (
.ite (.t 92) (
 .seq (.reg false [
 ⟨some 93, none, .bld [(.ls 4 [])] [], none⟩,
 ⟨none, none, .st (some 1) (.t 4) (.t 93), none⟩,
 ⟨some 5, none, .mv false (.c (.int .i64 17)), none⟩] (some [4, 5])) (
 .ret)) (
 .skip))) (
.seq (.seq (.reg false [
 ⟨some 94, none, .ld none (.t 3), none⟩,
 ⟨some 95, none, .len false (.t 94), none⟩,
 ⟨some 96, none, .bin .lss .i64 (.t 95) (.c (.int .i64 3)), none⟩] (some [2, 3, 4, 8, 9, 96])) (
.ite (.t 96) (
 .seq (.reg false [
 ⟨some 97, none, .bld [(.ls 4 [])] [], none⟩,
 ⟨none, none, .st (some 1) (.t 4) (.t 97), none⟩,
 ⟨some 5, none, .mv false (.c (.int .i64 0)), none⟩] (some [4, 5])) (
 .ret)) (
 .skip))) (
.seq (.reg false [
 ⟨some 98, none, .fld 1 (.t 8), none⟩,
 ⟨some 99, none, .ld none (.t 98), none⟩,
 ⟨some 100, none, .fld 1 (.t 9), none⟩,
 ⟨some 101, none, .ld none (.t 100), none⟩,
 ⟨some 102, none, .clo 148 [(.t 2), (.t 3)], none⟩,
 ⟨some 103, none, .call true 147 [(.t 99), (.t 101), (.t 102)], none⟩,
 ⟨some 104, none, .call false 11 [.t 103], none⟩,
 ⟨none, none, .st (some 1) (.t 4) (.t 104), none⟩,
 ⟨some 5, none, .mv false (.c (.int .i64 0)), none⟩] (some [4, 5])) (
.ret))))))))))
set_option maxRecDepth 1000000 in
theorem Zg : (Tryz.f90.body.bind fun code => kF Tryz.prog Tryz.f90.ntmps code c_poly_Region) = some c_poly_Region.bare := by kernel_rfl
def k8 : List R := [.cell 4 (some 1), .t 5]
theorem ZK {ds : List D} {d : D} (hn : Nat.ble ds.length 105 = true) (h : run TSpC gtab 0 c_poly_Region (retK k8 (· = d)) ⟨env0 0 ds, []⟩) : TSp 90 ds d := qn kM c_poly_Region k8 (fn := Tryz.f90) (by kernel_rfl) (by kernel_rfl) Zg (by kernel_rfl) hn h
def c_top_TopEdges : C := .seq (.reg false [
 ⟨some 4, none, .box true (.t 1), none⟩,
 ⟨some 6, none, .mv false (.c (.bool false)), none⟩] (some [0, 2, 4])) (
.seq (.seq (.reg false [
 ⟨some 27, none, .mv false (.t 0), none⟩,
 ⟨some 28, none, .len false (.t 27), none⟩,
 ⟨some 29, none, .bin .lss .i64 (.t 28) (.c (.int .i64 3)), none⟩,
 ⟨some 30, none, .mv false (.t 29), none⟩,
 ⟨some 31, some (30, false), .mv false (.t 0), none⟩,
 ⟨some 32, some (30, false), .len false (.t 31), none⟩,
 ⟨some 33, some (30, false), .bin .gtr .i64 (.t 32) (.c (.int .i64 12)), none⟩,
 ⟨some 34, none, .pick (.t 30) (.c (.bool true)) (.t 33), none⟩] (some [0, 2, 4, 34])) (
.ite (.t 34) (
 .seq (.reg false [
 ⟨some 6, none, .mv false (.c (.bool true)), none⟩] (some [6])) (
 .ret)) (
 .skip))) (
.seq (.reg false [
 ⟨some 35, none, .mv false (.t 0), none⟩,
 ⟨some 36, none, .call false 25 [.t 35], none⟩,
 ⟨some 7, none, .mv false (.t 36), none⟩] (some [2, 4, 7])) (
.seq (.reg false [
 ⟨some 38, none, .mv false (.t 7), none⟩,
 ⟨some 39, none, .call true 26 [.t 38], none⟩,
 ⟨some 37, none, .mv false (.t 39), none⟩,
 ⟨some 40, none, .ext (.t 37) 0, none⟩,
 ⟨some 41, none, .ext (.t 37) 1, none⟩,
 ⟨some 8, none, .alloc [(.ls 4 [])], none⟩,
 ⟨none, none, .st (some 1) (.t 8) (.t 40), none⟩,
 ⟨some 9, none, .mv false (.t 41), none⟩] (some [2, 4, 7, 8, 9])) (
.seq (.seq (.reg false [
 ⟨some 42, none, .mv false (.t 9), none⟩,
 ⟨some 43, none, .not (.t 42), none⟩] (some [2, 4, 7, 8, 43])) (
.ite (.t 43) (
 .seq (.reg false [
 ⟨some 6, none, .mv false (.c (.bool false)), none⟩] (some [6])) (
 .ret)) (
 .skip))) (
.seq (.reg false [
 ⟨some 45, none, .call false 27 [(.c (.int .i64 17)), (.c (.int .i64 17)), (.c (.int .u8 5))], none⟩,
 ⟨some 44, none, .mv false (.t 45), none⟩,
 ⟨some 46, none, .ext (.t 44) 0, none⟩,
 ⟨some 47, none, .ext (.t 44) 1, none⟩,
 ⟨some 10, none, .alloc [(.int .i64 0), (.int .i64 0), (.ls 1 [])], none⟩,
 ⟨none, none, .st (some 3) (.t 10) (.t 46), none⟩,
 ⟨some 11, none, .mv false (.t 47), none⟩] (some [2, 4, 7, 8, 10, 11])) (
.seq (.seq (.reg false [
 ⟨some 48, none, .mv false (.t 11), none⟩,
 ⟨some 49, none, .bin .neq .i64 (.t 48) (.c (.int .i64 0)), none⟩] (some [2, 4, 7, 8, 10, 49])) (
.ite (.t 49) (
 .seq (.reg false [
 ⟨some 6, none, .mv false (.c (.bool false)), none⟩] (some [6])) (
 .ret)) (
 .skip))) (
.seq (.reg false [
 ⟨some 50, none, .call false 16 [], none⟩,
 ⟨some 12, none, .alloc [(.int .i64 0), (.int .u8 0), (.int .u8 0), (.int .u8 0), (.int .u32 0), (.int .i64 0), (.int .i64 0), (.bool false), (.ls 4 [])], none⟩,
 ⟨none, none, .st (some 9) (.t 12) (.t 50), none⟩] (some [2, 4, 7, 8, 10, 12])) (
.seq (.reg false [
 ⟨some 51, none, .mv false (.t 2), none⟩,
 ⟨some 52, none, .fld 0 (.t 12), none⟩,
 ⟨none, none, .st none (.t 52) (.c (.int .i64 6)), none⟩,
 ⟨some 53, none, .fld 2 (.t 12), none⟩,
 ⟨none, none, .st none (.t 53) (.t 51), none⟩] (some [2, 4, 7, 8, 10, 12])) (
.seq (.reg false [
 ⟨some 54, none, .bld [(.int .i64 0), (.int .i64 0), (.int .i64 0), (.int .i64 0)] [(2, none, (.c (.int .i64 17))), (3, none, (.c (.int .i64 17)))], none⟩,
 ⟨some 55, none, .bsl none 45 4 (some 4) [.t 54], none⟩,
 ⟨some 56, none, .call false 11 [.t 55], none⟩,
 ⟨some 13, none, .alloc [(.ls 4 [])], none⟩,
 ⟨none, none, .st (some 1) (.t 13) (.t 56), none⟩] (some [2, 4, 7, 8, 10, 12, 13])) (
.seq (.reg false [
 ⟨some 57, none, .ld (some 3) (.t 10), none⟩,
 ⟨some 58, none, .bld [(.ls 4 [])] [], none⟩,
 ⟨some 14, none, .alloc [(.int .i64 0), (.int .i64 0), (.ls 1 [])], none⟩,
 ⟨some 15, none, .alloc [(.ls 4 [])], none⟩,
 ⟨none, none, .st (some 3) (.t 14) (.t 57), none⟩,
 ⟨none, none, .st (some 1) (.t 15) (.t 58), none⟩] (some [2, 4, 7, 8, 10, 12, 13, 14, 15])) (
.seq (.seq (.reg false [
 ⟨some 16, none, .mv false (.c (.int .i64 1)), none⟩] (some [2, 4, 7, 8, 10, 12, 13, 14, 15, 16])) (
.blk 0 (
 .loop (
 .seq (.seq (.reg false [
 ⟨some 59, none, .mv false (.t 16), none⟩,
 ⟨some 60, none, .bin .add .i64 (.t 59) (.c (.int .i64 1)), none⟩,
 ⟨some 61, none, .mv false (.t 7), none⟩,
 ⟨some 62, none, .len false (.t 61), none⟩,
 ⟨some 63, none, .bin .lss .i64 (.t 60) (.t 62), none⟩] (some [2, 4, 7, 8, 10, 12, 13, 14, 15, 16, 63])) (
 .ite (.t 63) (
 .skip) (
 .exit 0))) (
 .seq (.blk 1 (
 .seq (.reg true [
 ⟨some 67, none, .mv false (.t 7), none⟩,
 ⟨some 68, none, .ixs 2 (.t 67) (.c (.int .i64 0)), some []⟩,
 ⟨some 69, none, .ld (some 2) (.t 68), some []⟩,
 ⟨some 70, none, .mv false (.t 7), none⟩,
 ⟨some 71, none, .mv false (.t 16), none⟩,
 ⟨some 72, none, .ixs 2 (.t 70) (.t 71), some []⟩,
 ⟨some 73, none, .ld (some 2) (.t 72), some []⟩,
 ⟨some 74, none, .mv false (.t 7), none⟩,
 ⟨some 75, none, .mv false (.t 16), none⟩,
 ⟨some 76, none, .bin .add .i64 (.t 75) (.c (.int .i64 1)), none⟩,
 ⟨some 77, none, .ixs 2 (.t 74) (.t 76), some []⟩,
 ⟨some 78, none, .ld (some 2) (.t 77), some []⟩,
 ⟨some 79, none, .bsl none 75 2 (some 2) [(.t 69), (.t 73), (.t 78)], none⟩,
 ⟨some 80, none, .callC 26 [.t 79], none⟩,
 ⟨some 66, none, .mv false (.t 80), none⟩,
 ⟨some 81, none, .ext (.t 66) 0, none⟩,
 ⟨some 82, none, .ext (.t 66) 1, none⟩,
 ⟨some 17, none, .alloc [(.ls 4 [])], some [7]⟩,
 ⟨none, none, .st (some 1) (.t 17) (.t 81), some [7]⟩,
 ⟨some 18, none, .mv false (.t 82), none⟩] (some [2, 4, 7, 8, 10, 12, 13, 14, 15, 16, 17, 18])) (
 .seq (.seq (.reg false [
 ⟨some 83, none, .mv false (.t 18), none⟩,
 ⟨some 84, none, .not (.t 83), none⟩] (some [2, 4, 7, 8, 10, 12, 13, 14, 15, 16, 17, 84])) (
 .ite (.t 84) (
 .seq (.reg false [
 ⟨some 6, none, .mv false (.c (.bool false)), none⟩] (some [6])) (
 .ret)) (
 .skip))) (
 .seq (.reg false [
 ⟨some 85, none, .ld (some 3) (.t 14), none⟩,
 ⟨some 86, none, .ld (some 1) (.t 13), none⟩,
 ⟨some 87, none, .ld (some 1) (.t 17), none⟩,
 ⟨some 88, none, .ld (some 9) (.t 12), none⟩,
 ⟨some 89, none, .call false 28 [(.t 85), (.t 86), (.t 87), (.t 88)], none⟩,
 ⟨none, none, .st (some 3) (.t 14) (.t 89), none⟩] (some [2, 4, 7, 8, 10, 12, 13, 14, 15, 16, 17])) (
 .reg false [
 ⟨some 90, none, .ld (some 1) (.t 15), none⟩,
 ⟨some 91, none, .ld (some 1) (.t 17), none⟩,
 ⟨some 92, none, .call false 29 [(.t 90), (.t 91)], none⟩,
 ⟨none, none, .st (some 1) (.t 15) (.t 92), none⟩] (some [2, 4, 7, 8, 10, 12, 13, 14, 15, 16])))))) (
 .reg false [
 ⟨some 64, none, .mv false (.t 16), none⟩,
 ⟨some 65, none, .bin .add .i64 (.t 64) (.c (.int .i64 1)), none⟩,
 ⟨some 16, none, .mv false (.t 65), none⟩] (some [2, 4, 7, 8, 10, 12, 13, 14, 15, 16]))))))) (
.seq (.seq (.reg true [
 ⟨some 93, none, .ld (some 1) (.t 15), none⟩,
 ⟨some 94, none, .ld (some 1) (.t 8), none⟩,
 ⟨some 95, none, .call false 22 [(.t 93), (.t 94)], none⟩,
 ⟨some 96, none, .not (.t 95), none⟩,
 ⟨some 97, none, .mv false (.t 96), none⟩,
 ⟨some 98, some (97, false), .ld (some 3) (.t 14), none⟩,
 ⟨some 99, some (97, false), .ld (some 3) (.t 10), none⟩,
 ⟨some 100, some (97, false), .ld (some 1) (.t 13), none⟩,
 ⟨some 101, some (97, false), .ld (some 1) (.t 8), none⟩,
 ⟨some 102, some (97, false), .ld (some 9) (.t 12), none⟩,
 ⟨some 103, some (97, false), .call false 28 [(.t 99), (.t 100), (.t 101), (.t 102)], none⟩,
 ⟨some 104, some (97, false), .call false 20 [(.t 98), (.t 103)], none⟩,
 ⟨some 105, some (97, false), .not (.t 104), none⟩,
 ⟨some 106, none, .pick (.t 97) (.c (.bool true)) (.t 105), none⟩] (some [2, 4, 7, 8, 10, 14, 106])) (
.ite (.t 106) (
 .seq (.reg false [
 ⟨some 6, none, .mv false (.c (.bool false)), none⟩] (some [6])) (
 .ret)) (
 .skip))) (
.seq (.reg true [
 ⟨some 107, none, .ixa 2 1 (.t 4) (.c (.int .i64 0)), none⟩,
 ⟨some 108, none, .ld none (.t 107), none⟩,
 ⟨some 109, none, .conv .i64 (.t 108), none⟩,
 ⟨some 110, none, .mv false (.t 7), none⟩,
 ⟨some 111, none, .len false (.t 110), none⟩,
 ⟨some 112, none, .bin .rem .i64 (.t 109) (.t 111), none⟩,
 ⟨some 113, none, .ixa 2 1 (.t 4) (.c (.int .i64 1)), none⟩,
 ⟨some 114, none, .ld none (.t 113), none⟩,
 ⟨some 115, none, .conv .i64 (.t 114), none⟩,
 ⟨some 116, none, .mv false (.t 7), none⟩,
 ⟨some 117, none, .len false (.t 116), none⟩,
 ⟨some 118, none, .bin .rem .i64 (.t 115) (.t 117), none⟩,
 ⟨some 19, none, .mv false (.t 112), none⟩,
 ⟨some 20, none, .mv false (.t 118), none⟩] (some [2, 7, 8, 10, 14, 19, 20])) (
.seq (.seq (.reg false [
 ⟨some 119, none, .mv false (.t 19), none⟩,
 ⟨some 120, none, .mv false (.t 20), none⟩,
 ⟨some 121, none, .bin .gtr .i64 (.t 119) (.t 120), none⟩] (some [2, 7, 8, 10, 14, 19, 20, 121])) (
.ite (.t 121) (
 .reg false [
 ⟨some 122, none, .mv false (.t 20), none⟩,
 ⟨some 123, none, .mv false (.t 19), none⟩,
 ⟨some 19, none, .mv false (.t 122), none⟩,
 ⟨some 20, none, .mv false (.t 123), none⟩] (some [2, 7, 8, 10, 14, 19, 20])) (
 .skip))) (
.seq (.reg false [
 ⟨some 125, none, .mv false (.t 7), none⟩,
 ⟨some 126, none, .mv false (.t 19), none⟩,
 ⟨some 127, none, .mv false (.t 20), none⟩,
 ⟨some 128, none, .bin .add .i64 (.t 127) (.c (.int .i64 1)), none⟩,
 ⟨some 129, none, .sls false 2 (.t 125) (some (.t 126)) (some (.t 128)), none⟩,
 ⟨some 130, none, .call true 26 [.t 129], none⟩,
 ⟨some 124, none, .mv false (.t 130), none⟩,
 ⟨some 131, none, .ext (.t 124) 0, none⟩,
 ⟨some 132, none, .ext (.t 124) 1, none⟩,
 ⟨some 21, none, .alloc [(.ls 4 [])], none⟩,
 ⟨none, none, .st (some 1) (.t 21) (.t 131), none⟩,
 ⟨some 22, none, .mv false (.t 132), none⟩] (some [2, 7, 8, 10, 14, 19, 20, 21, 22])) (
.seq (.reg true [
 ⟨some 134, none, .bsl (some false) 75 2 (some 2) [], none⟩,
 ⟨some 135, none, .mv false (.t 7), none⟩,
 ⟨some 136, none, .mv false (.t 20), none⟩,
 ⟨some 137, none, .sls false 2 (.t 135) (some (.t 136)) none, none⟩,
 ⟨some 138, none, .app 75 2 16 (.t 134) (.t 137), some [8]⟩,
 ⟨some 139, none, .mv false (.t 7), none⟩,
 ⟨some 140, none, .mv false (.t 19), none⟩,
 ⟨some 141, none, .bin .add .i64 (.t 140) (.c (.int .i64 1)), none⟩,
 ⟨some 142, none, .sls false 2 (.t 139) none (some (.t 141)), none⟩,
 ⟨some 143, none, .app 75 2 16 (.t 138) (.t 142), some [8]⟩,
 ⟨some 144, none, .call true 26 [.t 143], none⟩,
 ⟨some 133, none, .mv false (.t 144), none⟩,
 ⟨some 145, none, .ext (.t 133) 0, none⟩,
 ⟨some 146, none, .ext (.t 133) 1, none⟩,
 ⟨some 23, none, .alloc [(.ls 4 [])], some [9]⟩,
 ⟨none, none, .st (some 1) (.t 23) (.t 145), some [9]⟩,
 ⟨some 24, none, .mv false (.t 146), none⟩] (some [2, 8, 10, 14, 21, 22, 23, 24])) (
.seq (.seq (.reg false [
 ⟨some 147, none, .mv false (.t 22), none⟩,
 ⟨some 148, none, .not (.t 147), none⟩,
 ⟨some 149, none, .mv false (.t 148), none⟩,
 ⟨some 150, some (149, false), .mv false (.t 24), none⟩,
 ⟨some 151, some (149, false), .not (.t 150), none⟩,
 ⟨some 152, none, .pick (.t 149) (.c (.bool true)) (.t 151), none⟩] (some [2, 8, 10, 14, 21, 23, 152])) (
.ite (.t 152) (
 .seq (.reg false [
 ⟨some 6, none, .mv false (.c (.bool false)), none⟩] (some [6])) (
 .ret)) (
 .skip))) (
.seq (.seq (.reg true [
 ⟨some 153, none, .ld (some 1) (.t 21), none⟩,
 ⟨some 154, none, .ld (some 1) (.t 23), none⟩,
 ⟨some 155, none, .call false 13 [(.t 153), (.t 154)], none⟩,
 ⟨some 156, none, .call false 30 [.t 155], none⟩,
 ⟨some 157, none, .mv false (.t 156), none⟩,
 ⟨some 158, some (157, true), .ld (some 1) (.t 21), none⟩,
 ⟨some 159, some (157, true), .call false 31 [.t 158], none⟩,
 ⟨some 160, some (157, true), .ld (some 1) (.t 23), none⟩,
 ⟨some 161, some (157, true), .call false 31 [.t 160], none⟩,
 ⟨some 162, some (157, true), .bin .add .i64 (.t 159) (.t 161), none⟩,
 ⟨some 163, some (157, true), .ld (some 1) (.t 8), none⟩,
 ⟨some 164, some (157, true), .call false 31 [.t 163], none⟩,
 ⟨some 165, some (157, true), .bin .neq .i64 (.t 162) (.t 164), none⟩,
 ⟨some 166, none, .pick (.t 157) (.t 165) (.c (.bool false)), none⟩] (some [2, 8, 10, 14, 21, 23, 166])) (
.ite (.t 166) (
 .seq (.reg false [
 ⟨some 6, none, .mv false (.c (.bool false)), none⟩] (some [6])) (
 .ret)) (
 .skip))) (
.seq (.reg false [
 ⟨some 168, none, .ld (some 3) (.t 10), none⟩,
 ⟨some 169, none, .call false 10 [.t 168], none⟩,
 ⟨some 167, none, .mv false (.t 169), none⟩,
 ⟨some 170, none, .ext (.t 167) 0, none⟩,
 ⟨some 171, none, .ext (.t 167) 1, none⟩,
 ⟨some 25, none, .mv false (.t 170), none⟩,
 ⟨some 26, none, .mv false (.t 171), none⟩] (some [2, 8, 10, 14, 21, 23, 25, 26])) (
.seq (.reg true [
 ⟨some 172, none, .ld (some 1) (.t 21), none⟩,
 ⟨some 173, none, .ld (some 1) (.t 23), none⟩,
 ⟨some 174, none, .call false 29 [(.t 172), (.t 173)], none⟩,
 ⟨some 175, none, .ld (some 1) (.t 8), none⟩,
 ⟨some 176, none, .call false 22 [(.t 174), (.t 175)], none⟩,
 ⟨some 177, none, .mv false (.t 176), none⟩,
 ⟨some 178, some (177, true), .mv false (.t 25), none⟩,
 ⟨some 179, some (177, true), .bin .eql .i64 (.t 178) (.c (.int .i64 17)), none⟩,
 ⟨some 180, none, .pick (.t 177) (.t 179) (.c (.bool false)), none⟩,
 ⟨some 181, none, .mv false (.t 180), none⟩,
 ⟨some 182, some (181, true), .mv false (.t 26), none⟩,
 ⟨some 183, some (181, true), .bin .eql .i64 (.t 182) (.c (.int .i64 17)), none⟩,
 ⟨some 184, none, .pick (.t 181) (.t 183) (.c (.bool false)), none⟩,
 ⟨some 185, none, .mv false (.t 184), none⟩,
 ⟨some 186, some (185, true), .mv false (.t 2), none⟩,
 ⟨some 187, some (185, true), .bin .eql .u8 (.t 186) (.c (.int .u8 0)), none⟩,
 ⟨some 188, some (185, true), .mv false (.t 187), none⟩,
 ⟨some 189, some (188, false), .ld (some 1) (.t 8), none⟩,
 ⟨some 190, some (188, false), .call false 30 [.t 189], none⟩,
 ⟨some 191, some (185, true), .pick (.t 188) (.c (.bool true)) (.t 190), none⟩,
 ⟨some 192, some (185, true), .mv false (.t 191), none⟩,
 ⟨some 193, some (192, false), .ld (some 3) (.t 14), none⟩,
 ⟨some 194, some (192, false), .ld (some 3) (.t 10), none⟩,
 ⟨some 195, some (192, false), .call false 20 [(.t 193), (.t 194)], none⟩,
 ⟨some 196, some (192, false), .not (.t 195), none⟩,
 ⟨some 197, some (185, true), .pick (.t 192) (.c (.bool true)) (.t 196), none⟩,
 ⟨some 198, none, .pick (.t 185) (.t 197) (.c (.bool false)), none⟩,
 ⟨some 6, none, .mv false (.t 198), none⟩] (some [6])) (
.ret)))))))))))))))))))))
set_option maxRecDepth 1000000 in
theorem Qx : (Tryz.f4.body.bind fun code => kF Tryz.prog Tryz.f4.ntmps code c_top_TopEdges) = some c_top_TopEdges.bare := by kernel_rfl
def kw : List R := [.t 6]
theorem QP {ds : List D} {d : D} (hn : Nat.ble ds.length 199 = true) (h : run TSpC gtab 0 c_top_TopEdges (retK kw (· = d)) ⟨env0 0 ds, []⟩) : TSp 4 ds d := qn kM c_top_TopEdges kw (fn := Tryz.f4) (by kernel_rfl) (by kernel_rfl) Qx (by kernel_rfl) hn h
end Go.AM

