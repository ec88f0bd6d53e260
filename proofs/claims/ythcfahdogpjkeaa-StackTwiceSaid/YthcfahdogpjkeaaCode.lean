/- The functions' code, as the little machine has it (printed by Show.lean). -/
import Derived.Test.YthcfahdogpjkeaaA25
import Derived.Test.YthcfahdogpjkeaaProg
set_option linter.all false
namespace Go.AM
open Go Go.Proofs
theorem mixed : Try.prog.follows .mixedOrders = true := by kernel_rfl
def gtab : Nat → Option (List D) := fun _ => none
abbrev TSp := Sp Try.prog gtab
abbrev TSpM := SpM Try.prog gtab
abbrev TSpC := SpC Try.prog gtab
/-- glazier/tree.New -/
def c_tree_New : C := .seq (.reg false [
  ⟨(some 0), none, .alloc [(.mp [] []), (.mp [] [])], none⟩] (some [0])) (
.seq (.reg false [
  ⟨(some 1), none, .bld [(.mp [] []), (.mp [] [])] [], none⟩,
  ⟨none, none, .st (some 2) (.t 0) (.t 1), none⟩] (some [0])) (
.ret))
set_option maxRecDepth 1000000 in
theorem comp_tree_New : (Try.f24.body.bind fun code => compC Try.prog Try.f24.ntmps code c_tree_New) = some c_tree_New.bare := by kernel_rfl
def r_tree_New : List R := [.cell 0 (some 2)]
theorem spo_tree_New {ds : List D} {d : D} (hn : Nat.ble ds.length 2 = true) (h : run TSpC gtab 0 c_tree_New (retK r_tree_New (· = d)) ⟨env0 0 ds, []⟩) : TSp 24 ds d := Sp_of mixed c_tree_New r_tree_New (fn := Try.f24) (by kernel_rfl) (by kernel_rfl) comp_tree_New (by kernel_rfl) hn h
theorem spm_tree_New {ds : List D} {d : D} {bx bx' : List Ent} (hn : Nat.ble ds.length 2 = true) (h : run TSpC gtab (sizeE bx) c_tree_New (retG r_tree_New (fun d1 bx1 => Rt (sizeE bx) bx1 d1 d bx')) ⟨env0 0 ds, bx⟩) : TSpM 24 ds bx d bx' := SpM_of mixed c_tree_New r_tree_New (fn := Try.f24) (by kernel_rfl) (by kernel_rfl) comp_tree_New (by kernel_rfl) hn h
/-- (glazier/tree.Tree).Add -/
def c_tree_Tree_Add : C := .seq (.reg false [
  ⟨(some 3), none, .box true (.t 0), none⟩,
  ⟨(some 6), none, .alloc [(.mp [] []), (.mp [] [])], none⟩,
  ⟨(some 7), none, .mv false (.c (.int .i64 0)), none⟩] (some [1, 2, 3, 6])) (
.seq (.seq (.reg false [
  ⟨(some 10), none, .mv false (.t 1), none⟩,
  ⟨(some 11), none, .call false 52 [(.t 10)], none⟩,
  ⟨(some 8), none, .mv false (.t 11), none⟩] (some [1, 2, 3, 6, 8])) (
.seq (.reg false [
  ⟨(some 12), none, .mv false (.t 8), none⟩,
  ⟨(some 13), none, .bin .neq .i64 (.t 12) (.c (.int .i64 0)), none⟩] (some [1, 2, 3, 6, 8, 13])) (
.ite (.t 13) (
  .seq (.reg false [
    ⟨(some 14), none, .ld (some 2) (.t 3), none⟩,
    ⟨(some 15), none, .mv false (.t 8), none⟩,
    ⟨none, none, .st (some 2) (.t 6) (.t 14), none⟩,
    ⟨(some 7), none, .mv false (.t 15), none⟩] (some [6, 7])) (
  .ret)) (
  .skip)))) (
.seq (.blk 0 (
  .seq (.reg false [
    ⟨(some 17), none, .ld (some 2) (.t 3), none⟩,
    ⟨(some 18), none, .mv false (.t 1), none⟩,
    ⟨(some 19), none, .call false 43 [(.t 17), (.t 18)], none⟩,
    ⟨(some 16), none, .mv false (.t 19), none⟩] (some [1, 2, 3, 6, 16])) (
  .ite (.t 16) (
    .seq (.reg false [
      ⟨(some 20), none, .ld (some 2) (.t 3), none⟩,
      ⟨none, none, .st (some 2) (.t 6) (.t 20), none⟩,
      ⟨(some 7), none, .mv false (.c (.int .i64 7)), none⟩] (some [6, 7])) (
    .ret)) (
    .seq (.reg false [
      ⟨(some 22), none, .ld (some 2) (.t 3), none⟩,
      ⟨(some 23), none, .mv false (.t 2), none⟩,
      ⟨(some 24), none, .call false 43 [(.t 22), (.t 23)], none⟩,
      ⟨(some 25), none, .not (.t 24), none⟩,
      ⟨(some 21), none, .mv false (.t 25), none⟩] (some [1, 2, 3, 6, 21])) (
    .ite (.t 21) (
      .seq (.reg false [
        ⟨(some 26), none, .ld (some 2) (.t 3), none⟩,
        ⟨none, none, .st (some 2) (.t 6) (.t 26), none⟩,
        ⟨(some 7), none, .mv false (.c (.int .i64 6)), none⟩] (some [6, 7])) (
      .ret)) (
      .seq (.reg false [
        ⟨(some 28), none, .fld 1 (.t 3), none⟩,
        ⟨(some 29), none, .ld none (.t 28), none⟩,
        ⟨(some 30), none, .prm false false (.lenm 29) [(.t 29)], none⟩,
        ⟨(some 31), none, .bin .add .i64 (.t 30) (.c (.int .i64 1)), none⟩,
        ⟨(some 32), none, .bin .geq .i64 (.t 31) (.c (.int .i64 64)), none⟩,
        ⟨(some 27), none, .mv false (.t 32), none⟩] (some [1, 2, 3, 6, 27])) (
      .ite (.t 27) (
        .seq (.reg false [
          ⟨(some 33), none, .ld (some 2) (.t 3), none⟩,
          ⟨none, none, .st (some 2) (.t 6) (.t 33), none⟩,
          ⟨(some 7), none, .mv false (.c (.int .i64 5)), none⟩] (some [6, 7])) (
        .ret)) (
        .skip)))))))) (
.seq (.reg false [
  ⟨(some 34), none, .ld (some 2) (.t 3), none⟩,
  ⟨(some 35), none, .call true 53 [(.t 34)], none⟩,
  ⟨(some 9), none, .alloc [(.mp [] []), (.mp [] [])], none⟩,
  ⟨none, none, .st (some 2) (.t 9) (.t 35), none⟩] (some [1, 2, 6, 9])) (
.seq (.reg false [
  ⟨(some 36), none, .ld (some 2) (.t 9), none⟩,
  ⟨(some 37), none, .mv false (.t 1), none⟩,
  ⟨(some 38), none, .mv false (.t 2), none⟩,
  ⟨(some 39), none, .call true 54 [(.t 36), (.t 37), (.t 38)], none⟩] (some [6, 9])) (
.seq (.reg false [
  ⟨(some 40), none, .ld (some 2) (.t 9), none⟩,
  ⟨none, none, .st (some 2) (.t 6) (.t 40), none⟩,
  ⟨(some 7), none, .mv false (.c (.int .i64 0)), none⟩] (some [6, 7])) (
.ret))))))
set_option maxRecDepth 1000000 in
theorem comp_tree_Tree_Add : (Try.f25.body.bind fun code => compC Try.prog Try.f25.ntmps code c_tree_Tree_Add) = some c_tree_Tree_Add.bare := by kernel_rfl
def r_tree_Tree_Add : List R := [.cell 6 (some 2), .t 7]
theorem spo_tree_Tree_Add {ds : List D} {d : D} (hn : Nat.ble ds.length 41 = true) (h : run TSpC gtab 0 c_tree_Tree_Add (retK r_tree_Tree_Add (· = d)) ⟨env0 0 ds, []⟩) : TSp 25 ds d := Sp_of mixed c_tree_Tree_Add r_tree_Tree_Add (fn := Try.f25) (by kernel_rfl) (by kernel_rfl) comp_tree_Tree_Add (by kernel_rfl) hn h
theorem spm_tree_Tree_Add {ds : List D} {d : D} {bx bx' : List Ent} (hn : Nat.ble ds.length 41 = true) (h : run TSpC gtab (sizeE bx) c_tree_Tree_Add (retG r_tree_Tree_Add (fun d1 bx1 => Rt (sizeE bx) bx1 d1 d bx')) ⟨env0 0 ds, bx⟩) : TSpM 25 ds bx d bx' := SpM_of mixed c_tree_Tree_Add r_tree_Tree_Add (fn := Try.f25) (by kernel_rfl) (by kernel_rfl) comp_tree_Tree_Add (by kernel_rfl) hn h
/-- (glazier/tree.Tree).Has -/
def c_tree_Tree_Has : C := .seq (.reg false [
  ⟨(some 2), none, .box true (.t 0), none⟩,
  ⟨(some 4), none, .mv false (.c (.bool false)), none⟩] (some [1, 2])) (
.seq (.reg false [
  ⟨(some 8), none, .fld 1 (.t 2), none⟩,
  ⟨(some 9), none, .ld none (.t 8), none⟩,
  ⟨(some 10), none, .mv false (.t 1), none⟩,
  ⟨(some 11), none, .prm false false (.lkp 29 true) [(.t 9), (.t 10)], none⟩,
  ⟨(some 7), none, .mv false (.t 11), none⟩,
  ⟨(some 12), none, .ext (.t 7) 0, none⟩,
  ⟨(some 13), none, .ext (.t 7) 1, none⟩,
  ⟨(some 5), none, .mv false (.t 12), none⟩,
  ⟨(some 6), none, .mv false (.t 13), none⟩] (some [1, 6])) (
.seq (.reg false [
  ⟨(some 14), none, .mv false (.t 6), none⟩,
  ⟨(some 15), none, .mv false (.t 14), none⟩,
  ⟨(some 16), some (15, false), .mv false (.t 1), none⟩,
  ⟨(some 17), some (15, false), .bin .eql .u32 (.t 16) (.c (.int .u32 1)), none⟩,
  ⟨(some 18), none, .pick (.t 15) (.c (.bool true)) (.t 17), none⟩,
  ⟨(some 4), none, .mv false (.t 18), none⟩] (some [4])) (
.ret)))
set_option maxRecDepth 1000000 in
theorem comp_tree_Tree_Has : (Try.f43.body.bind fun code => compC Try.prog Try.f43.ntmps code c_tree_Tree_Has) = some c_tree_Tree_Has.bare := by kernel_rfl
def r_tree_Tree_Has : List R := [.t 4]
theorem spo_tree_Tree_Has {ds : List D} {d : D} (hn : Nat.ble ds.length 19 = true) (h : run TSpC gtab 0 c_tree_Tree_Has (retK r_tree_Tree_Has (· = d)) ⟨env0 0 ds, []⟩) : TSp 43 ds d := Sp_of mixed c_tree_Tree_Has r_tree_Tree_Has (fn := Try.f43) (by kernel_rfl) (by kernel_rfl) comp_tree_Tree_Has (by kernel_rfl) hn h
theorem spm_tree_Tree_Has {ds : List D} {d : D} {bx bx' : List Ent} (hn : Nat.ble ds.length 19 = true) (h : run TSpC gtab (sizeE bx) c_tree_Tree_Has (retG r_tree_Tree_Has (fun d1 bx1 => Rt (sizeE bx) bx1 d1 d bx')) ⟨env0 0 ds, bx⟩) : TSpM 43 ds bx d bx' := SpM_of mixed c_tree_Tree_Has r_tree_Tree_Has (fn := Try.f43) (by kernel_rfl) (by kernel_rfl) comp_tree_Tree_Has (by kernel_rfl) hn h
/-- (glazier/tree.Tree).Parent -/
def c_tree_Tree_Parent : C := .seq (.reg false [
  ⟨(some 2), none, .box true (.t 0), none⟩,
  ⟨(some 4), none, .mv false (.c (.int .u32 0)), none⟩,
  ⟨(some 5), none, .mv false (.c (.bool false)), none⟩] (some [1, 2])) (
.seq (.reg false [
  ⟨(some 9), none, .fld 1 (.t 2), none⟩,
  ⟨(some 10), none, .ld none (.t 9), none⟩,
  ⟨(some 11), none, .mv false (.t 1), none⟩,
  ⟨(some 12), none, .prm false false (.lkp 29 true) [(.t 10), (.t 11)], none⟩,
  ⟨(some 8), none, .mv false (.t 12), none⟩,
  ⟨(some 13), none, .ext (.t 8) 0, none⟩,
  ⟨(some 14), none, .ext (.t 8) 1, none⟩,
  ⟨(some 6), none, .mv false (.t 13), none⟩,
  ⟨(some 7), none, .mv false (.t 14), none⟩] (some [6, 7])) (
.seq (.reg false [
  ⟨(some 15), none, .mv false (.t 6), none⟩,
  ⟨(some 16), none, .mv false (.t 7), none⟩,
  ⟨(some 4), none, .mv false (.t 15), none⟩,
  ⟨(some 5), none, .mv false (.t 16), none⟩] (some [4, 5])) (
.ret)))
set_option maxRecDepth 1000000 in
theorem comp_tree_Tree_Parent : (Try.f26.body.bind fun code => compC Try.prog Try.f26.ntmps code c_tree_Tree_Parent) = some c_tree_Tree_Parent.bare := by kernel_rfl
def r_tree_Tree_Parent : List R := [.t 4, .t 5]
theorem spo_tree_Tree_Parent {ds : List D} {d : D} (hn : Nat.ble ds.length 17 = true) (h : run TSpC gtab 0 c_tree_Tree_Parent (retK r_tree_Tree_Parent (· = d)) ⟨env0 0 ds, []⟩) : TSp 26 ds d := Sp_of mixed c_tree_Tree_Parent r_tree_Tree_Parent (fn := Try.f26) (by kernel_rfl) (by kernel_rfl) comp_tree_Tree_Parent (by kernel_rfl) hn h
theorem spm_tree_Tree_Parent {ds : List D} {d : D} {bx bx' : List Ent} (hn : Nat.ble ds.length 17 = true) (h : run TSpC gtab (sizeE bx) c_tree_Tree_Parent (retG r_tree_Tree_Parent (fun d1 bx1 => Rt (sizeE bx) bx1 d1 d bx')) ⟨env0 0 ds, bx⟩) : TSpM 26 ds bx d bx' := SpM_of mixed c_tree_Tree_Parent r_tree_Tree_Parent (fn := Try.f26) (by kernel_rfl) (by kernel_rfl) comp_tree_Tree_Parent (by kernel_rfl) hn h
/-- (glazier/tree.Tree).Kids -/
def c_tree_Tree_Kids : C := .seq (.reg false [
  ⟨(some 2), none, .box true (.t 0), none⟩,
  ⟨(some 4), none, .nilS 37 1, none⟩] (some [1, 2])) (
.seq (.reg false [
  ⟨(some 5), none, .fld 0 (.t 2), none⟩,
  ⟨(some 6), none, .ld none (.t 5), none⟩,
  ⟨(some 7), none, .mv false (.t 1), none⟩,
  ⟨(some 8), none, .prm false false (.lkp 28 false) [(.t 6), (.t 7)], none⟩,
  ⟨(some 9), none, .call false 29 [(.t 8)], none⟩,
  ⟨(some 4), none, .mv false (.t 9), none⟩] (some [4])) (
.ret))
set_option maxRecDepth 1000000 in
theorem comp_tree_Tree_Kids : (Try.f27.body.bind fun code => compC Try.prog Try.f27.ntmps code c_tree_Tree_Kids) = some c_tree_Tree_Kids.bare := by kernel_rfl
def r_tree_Tree_Kids : List R := [.t 4]
theorem spo_tree_Tree_Kids {ds : List D} {d : D} (hn : Nat.ble ds.length 10 = true) (h : run TSpC gtab 0 c_tree_Tree_Kids (retK r_tree_Tree_Kids (· = d)) ⟨env0 0 ds, []⟩) : TSp 27 ds d := Sp_of mixed c_tree_Tree_Kids r_tree_Tree_Kids (fn := Try.f27) (by kernel_rfl) (by kernel_rfl) comp_tree_Tree_Kids (by kernel_rfl) hn h
theorem spm_tree_Tree_Kids {ds : List D} {d : D} {bx bx' : List Ent} (hn : Nat.ble ds.length 10 = true) (h : run TSpC gtab (sizeE bx) c_tree_Tree_Kids (retG r_tree_Tree_Kids (fun d1 bx1 => Rt (sizeE bx) bx1 d1 d bx')) ⟨env0 0 ds, bx⟩) : TSpM 27 ds bx d bx' := SpM_of mixed c_tree_Tree_Kids r_tree_Tree_Kids (fn := Try.f27) (by kernel_rfl) (by kernel_rfl) comp_tree_Tree_Kids (by kernel_rfl) hn h
/-- (glazier/tree.Tree).Place -/
def c_tree_Tree_Place : C := .seq (.reg false [
  ⟨(some 3), none, .box true (.t 0), none⟩,
  ⟨(some 6), none, .alloc [(.mp [] []), (.mp [] [])], none⟩,
  ⟨(some 7), none, .mv false (.c (.int .i64 0)), none⟩] (some [1, 2, 3, 6])) (
.seq (.seq (.reg false [
  ⟨(some 11), none, .ld (some 2) (.t 3), none⟩,
  ⟨(some 12), none, .mv false (.t 1), none⟩,
  ⟨(some 13), none, .call false 61 [(.t 11), (.t 12)], none⟩,
  ⟨(some 8), none, .mv false (.t 13), none⟩] (some [1, 2, 3, 6, 8])) (
.seq (.reg false [
  ⟨(some 14), none, .mv false (.t 8), none⟩,
  ⟨(some 15), none, .bin .neq .i64 (.t 14) (.c (.int .i64 0)), none⟩] (some [1, 2, 3, 6, 8, 15])) (
.ite (.t 15) (
  .seq (.reg false [
    ⟨(some 16), none, .ld (some 2) (.t 3), none⟩,
    ⟨(some 17), none, .mv false (.t 8), none⟩,
    ⟨none, none, .st (some 2) (.t 6) (.t 16), none⟩,
    ⟨(some 7), none, .mv false (.t 17), none⟩] (some [6, 7])) (
  .ret)) (
  .skip)))) (
.seq (.reg false [
  ⟨(some 18), none, .fld 1 (.t 3), none⟩,
  ⟨(some 19), none, .ld none (.t 18), none⟩,
  ⟨(some 20), none, .mv false (.t 1), none⟩,
  ⟨(some 21), none, .prm false false (.lkp 29 false) [(.t 19), (.t 20)], none⟩,
  ⟨(some 9), none, .mv false (.t 21), none⟩] (some [1, 2, 3, 6, 9])) (
.seq (.seq (.reg false [
  ⟨(some 22), none, .mv false (.t 2), none⟩,
  ⟨(some 23), none, .bin .lss .i64 (.t 22) (.c (.int .i64 0)), none⟩,
  ⟨(some 24), none, .mv false (.t 23), none⟩,
  ⟨(some 25), some (24, false), .mv false (.t 2), none⟩,
  ⟨(some 26), some (24, false), .fld 0 (.t 3), none⟩,
  ⟨(some 27), some (24, false), .ld none (.t 26), none⟩,
  ⟨(some 28), some (24, false), .mv false (.t 9), none⟩,
  ⟨(some 29), some (24, false), .prm false false (.lkp 28 false) [(.t 27), (.t 28)], none⟩,
  ⟨(some 30), some (24, false), .len false (.t 29), none⟩,
  ⟨(some 31), some (24, false), .bin .geq .i64 (.t 25) (.t 30), none⟩,
  ⟨(some 32), none, .pick (.t 24) (.c (.bool true)) (.t 31), none⟩] (some [1, 2, 3, 6, 9, 32])) (
.ite (.t 32) (
  .seq (.reg false [
    ⟨(some 33), none, .ld (some 2) (.t 3), none⟩,
    ⟨none, none, .st (some 2) (.t 6) (.t 33), none⟩,
    ⟨(some 7), none, .mv false (.c (.int .i64 1)), none⟩] (some [6, 7])) (
  .ret)) (
  .skip))) (
.seq (.reg false [
  ⟨(some 34), none, .ld (some 2) (.t 3), none⟩,
  ⟨(some 35), none, .call true 53 [(.t 34)], none⟩,
  ⟨(some 10), none, .alloc [(.mp [] []), (.mp [] [])], none⟩,
  ⟨none, none, .st (some 2) (.t 10) (.t 35), none⟩] (some [1, 2, 6, 9, 10])) (
.seq (.reg false [
  ⟨(some 36), none, .ld (some 2) (.t 10), none⟩,
  ⟨(some 37), none, .mv false (.t 1), none⟩,
  ⟨(some 38), none, .call true 62 [(.t 36), (.t 37)], none⟩] (some [1, 2, 6, 9, 10])) (
.seq (.reg true [
  ⟨(some 39), none, .fld 0 (.t 10), none⟩,
  ⟨(some 40), none, .ld none (.t 39), (some [6])⟩,
  ⟨(some 41), none, .mv false (.t 9), none⟩,
  ⟨(some 42), none, .fld 0 (.t 10), none⟩,
  ⟨(some 43), none, .ld none (.t 42), none⟩,
  ⟨(some 44), none, .mv false (.t 9), none⟩,
  ⟨(some 45), none, .prm false false (.lkp 28 false) [(.t 43), (.t 44)], none⟩,
  ⟨(some 46), none, .mv false (.t 2), none⟩,
  ⟨(some 47), none, .mv false (.t 1), none⟩,
  ⟨(some 48), none, .bsl none 37 1 none [(.t 47)], none⟩,
  ⟨(some 49), none, .callK [3] 63 [(.t 45), (.t 46), (.t 48)], none⟩,
  ⟨none, none, .prm false true (.upd 28) [(.t 40), (.t 41), (.t 49)], none⟩] (some [6, 10])) (
.seq (.reg false [
  ⟨(some 50), none, .ld (some 2) (.t 10), none⟩,
  ⟨none, none, .st (some 2) (.t 6) (.t 50), none⟩,
  ⟨(some 7), none, .mv false (.c (.int .i64 0)), none⟩] (some [6, 7])) (
.ret))))))))
set_option maxRecDepth 1000000 in
theorem comp_tree_Tree_Place : (Try.f39.body.bind fun code => compC Try.prog Try.f39.ntmps code c_tree_Tree_Place) = some c_tree_Tree_Place.bare := by kernel_rfl
def r_tree_Tree_Place : List R := [.cell 6 (some 2), .t 7]
theorem spo_tree_Tree_Place {ds : List D} {d : D} (hn : Nat.ble ds.length 51 = true) (h : run TSpC gtab 0 c_tree_Tree_Place (retK r_tree_Tree_Place (· = d)) ⟨env0 0 ds, []⟩) : TSp 39 ds d := Sp_of mixed c_tree_Tree_Place r_tree_Tree_Place (fn := Try.f39) (by kernel_rfl) (by kernel_rfl) comp_tree_Tree_Place (by kernel_rfl) hn h
theorem spm_tree_Tree_Place {ds : List D} {d : D} {bx bx' : List Ent} (hn : Nat.ble ds.length 51 = true) (h : run TSpC gtab (sizeE bx) c_tree_Tree_Place (retG r_tree_Tree_Place (fun d1 bx1 => Rt (sizeE bx) bx1 d1 d bx')) ⟨env0 0 ds, bx⟩) : TSpM 39 ds bx d bx' := SpM_of mixed c_tree_Tree_Place r_tree_Tree_Place (fn := Try.f39) (by kernel_rfl) (by kernel_rfl) comp_tree_Tree_Place (by kernel_rfl) hn h
/-- glazier/ident.Check -/
def c_ident_Check : C := .seq (.reg false [
  ⟨(some 2), none, .mv false (.c (.int .i64 0)), none⟩] (some [0])) (
.seq (.seq (.reg false [
  ⟨(some 5), none, .mv false (.t 0), none⟩,
  ⟨(some 6), none, .bin .eql .u32 (.t 5) (.c (.int .u32 0)), none⟩] (some [0, 6])) (
.ite (.t 6) (
  .seq (.reg false [
    ⟨(some 2), none, .mv false (.c (.int .i64 6)), none⟩] (some [2])) (
  .ret)) (
  .skip))) (
.seq (.seq (.reg false [
  ⟨(some 8), none, .mv false (.t 0), none⟩,
  ⟨(some 9), none, .call false 67 [(.t 8)], none⟩,
  ⟨(some 7), none, .mv false (.t 9), none⟩,
  ⟨(some 10), none, .ext (.t 7) 0, none⟩,
  ⟨(some 11), none, .ext (.t 7) 1, none⟩,
  ⟨(some 3), none, .mv false (.t 10), none⟩,
  ⟨(some 4), none, .mv false (.t 11), none⟩] (some [4])) (
.seq (.reg false [
  ⟨(some 12), none, .mv false (.t 4), none⟩,
  ⟨(some 13), none, .not (.t 12), none⟩] (some [13])) (
.ite (.t 13) (
  .seq (.reg false [
    ⟨(some 2), none, .mv false (.c (.int .i64 1)), none⟩] (some [2])) (
  .ret)) (
  .skip)))) (
.seq (.reg false [
  ⟨(some 2), none, .mv false (.c (.int .i64 0)), none⟩] (some [2])) (
.ret))))
set_option maxRecDepth 1000000 in
theorem comp_ident_Check : (Try.f52.body.bind fun code => compC Try.prog Try.f52.ntmps code c_ident_Check) = some c_ident_Check.bare := by kernel_rfl
def r_ident_Check : List R := [.t 2]
theorem spo_ident_Check {ds : List D} {d : D} (hn : Nat.ble ds.length 14 = true) (h : run TSpC gtab 0 c_ident_Check (retK r_ident_Check (· = d)) ⟨env0 0 ds, []⟩) : TSp 52 ds d := Sp_of mixed c_ident_Check r_ident_Check (fn := Try.f52) (by kernel_rfl) (by kernel_rfl) comp_ident_Check (by kernel_rfl) hn h
theorem spm_ident_Check {ds : List D} {d : D} {bx bx' : List Ent} (hn : Nat.ble ds.length 14 = true) (h : run TSpC gtab (sizeE bx) c_ident_Check (retG r_ident_Check (fun d1 bx1 => Rt (sizeE bx) bx1 d1 d bx')) ⟨env0 0 ds, bx⟩) : TSpM 52 ds bx d bx' := SpM_of mixed c_ident_Check r_ident_Check (fn := Try.f52) (by kernel_rfl) (by kernel_rfl) comp_ident_Check (by kernel_rfl) hn h
/-- (glazier/tree.Tree).twin -/
def c_tree_Tree_twin : C := .seq (.reg false [
  ⟨(some 1), none, .box true (.t 0), none⟩,
  ⟨(some 2), none, .alloc [(.mp [] []), (.mp [] [])], none⟩] (some [1, 2])) (
.seq (.reg false [
  ⟨(some 6), none, .prm false true (.mkm 28) [], none⟩,
  ⟨(some 7), none, .prm false true (.mkm 29) [], none⟩,
  ⟨(some 8), none, .bld [(.mp [] []), (.mp [] [])] [(0, none, (.t 6)), (1, none, (.t 7))], none⟩,
  ⟨(some 3), none, .alloc [(.mp [] []), (.mp [] [])], none⟩,
  ⟨none, none, .st (some 2) (.t 3) (.t 8), none⟩] (some [1, 2, 3])) (
.seq (.reg false [
  ⟨(some 9), none, .fld 1 (.t 3), none⟩,
  ⟨(some 10), none, .ld none (.t 9), none⟩,
  ⟨(some 11), none, .fld 1 (.t 1), none⟩,
  ⟨(some 12), none, .ld none (.t 11), none⟩,
  ⟨(some 13), none, .call true 68 [(.t 10), (.t 12)], none⟩] (some [1, 2, 3])) (
.seq (.seq (.reg false [
  ⟨(some 14), none, .fld 0 (.t 1), none⟩,
  ⟨(some 15), none, .ld none (.t 14), none⟩,
  ⟨(some 16), none, .prm false true (.rng 28) [(.t 15)], none⟩] (some [2, 3, 16])) (
.blk 0 (
  .loop (
    .seq (.reg false [
      ⟨(some 17), none, .prm true false (.nxt false) [(.t 16)], none⟩,
      ⟨(some 18), none, .ext (.t 17) 0, none⟩] (some [2, 3, 16, 18])) (
    .seq (.ite (.t 18) (
      .skip) (
      .exit 0)) (
    .blk 1 (
      .seq (.reg false [
        ⟨(some 19), none, .prm false false .ent [(.t 16)], none⟩,
        ⟨(some 20), none, .ext (.t 19) 0, none⟩,
        ⟨(some 21), none, .ext (.t 19) 1, none⟩,
        ⟨(some 4), none, .mv false (.t 20), none⟩,
        ⟨(some 5), none, .mv false (.t 21), none⟩] (some [2, 3, 4, 5, 16])) (
      .reg true [
        ⟨(some 22), none, .fld 0 (.t 3), none⟩,
        ⟨(some 23), none, .ld none (.t 22), (some [5, 6])⟩,
        ⟨(some 24), none, .mv false (.t 4), none⟩,
        ⟨(some 25), none, .mv false (.t 5), none⟩,
        ⟨(some 26), none, .callK [7, 8] 29 [(.t 25)], none⟩,
        ⟨none, none, .prm false true (.upd 28) [(.t 23), (.t 24), (.t 26)], none⟩] (some [2, 3, 16]))))))))) (
.seq (.reg false [
  ⟨(some 27), none, .ld (some 2) (.t 3), none⟩,
  ⟨none, none, .st (some 2) (.t 2) (.t 27), none⟩] (some [2])) (
.ret)))))
set_option maxRecDepth 1000000 in
theorem comp_tree_Tree_twin : (Try.f53.body.bind fun code => compC Try.prog Try.f53.ntmps code c_tree_Tree_twin) = some c_tree_Tree_twin.bare := by kernel_rfl
def r_tree_Tree_twin : List R := [.cell 2 (some 2)]
theorem spo_tree_Tree_twin {ds : List D} {d : D} (hn : Nat.ble ds.length 28 = true) (h : run TSpC gtab 0 c_tree_Tree_twin (retK r_tree_Tree_twin (· = d)) ⟨env0 0 ds, []⟩) : TSp 53 ds d := Sp_of mixed c_tree_Tree_twin r_tree_Tree_twin (fn := Try.f53) (by kernel_rfl) (by kernel_rfl) comp_tree_Tree_twin (by kernel_rfl) hn h
theorem spm_tree_Tree_twin {ds : List D} {d : D} {bx bx' : List Ent} (hn : Nat.ble ds.length 28 = true) (h : run TSpC gtab (sizeE bx) c_tree_Tree_twin (retG r_tree_Tree_twin (fun d1 bx1 => Rt (sizeE bx) bx1 d1 d bx')) ⟨env0 0 ds, bx⟩) : TSpM 53 ds bx d bx' := SpM_of mixed c_tree_Tree_twin r_tree_Tree_twin (fn := Try.f53) (by kernel_rfl) (by kernel_rfl) comp_tree_Tree_twin (by kernel_rfl) hn h
/-- (glazier/tree.Tree).put -/
def c_tree_Tree_put : C := .seq (.reg false [
  ⟨(some 3), none, .box true (.t 0), none⟩] (some [1, 2, 3])) (
.seq (.reg true [
  ⟨(some 6), none, .fld 0 (.t 3), none⟩,
  ⟨(some 7), none, .ld none (.t 6), (some [3])⟩,
  ⟨(some 8), none, .mv false (.t 2), none⟩,
  ⟨(some 9), none, .fld 0 (.t 3), none⟩,
  ⟨(some 10), none, .ld none (.t 9), (some [3])⟩,
  ⟨(some 11), none, .mv false (.t 2), none⟩,
  ⟨(some 12), none, .prm false false (.lkp 28 false) [(.t 10), (.t 11)], none⟩,
  ⟨(some 13), none, .mv false (.t 1), none⟩,
  ⟨(some 14), none, .bsl none 37 1 none [(.t 13)], none⟩,
  ⟨(some 15), none, .app 37 1 4 (.t 12) (.t 14), (some [1])⟩,
  ⟨none, none, .prm false true (.upd 28) [(.t 7), (.t 8), (.t 15)], none⟩] (some [1, 2, 3])) (
.reg false [
  ⟨(some 16), none, .fld 1 (.t 3), none⟩,
  ⟨(some 17), none, .ld none (.t 16), none⟩,
  ⟨(some 18), none, .mv false (.t 1), none⟩,
  ⟨(some 19), none, .mv false (.t 2), none⟩,
  ⟨none, none, .prm false true (.upd 29) [(.t 17), (.t 18), (.t 19)], none⟩] (some [])))
set_option maxRecDepth 1000000 in
theorem comp_tree_Tree_put : (Try.f54.body.bind fun code => compC Try.prog Try.f54.ntmps code c_tree_Tree_put) = some c_tree_Tree_put.bare := by kernel_rfl
def r_tree_Tree_put : List R := []
theorem spo_tree_Tree_put {ds : List D} {d : D} (hn : Nat.ble ds.length 20 = true) (h : run TSpC gtab 0 c_tree_Tree_put (retK r_tree_Tree_put (· = d)) ⟨env0 0 ds, []⟩) : TSp 54 ds d := Sp_of mixed c_tree_Tree_put r_tree_Tree_put (fn := Try.f54) (by kernel_rfl) (by kernel_rfl) comp_tree_Tree_put (by kernel_rfl) hn h
theorem spm_tree_Tree_put {ds : List D} {d : D} {bx bx' : List Ent} (hn : Nat.ble ds.length 20 = true) (h : run TSpC gtab (sizeE bx) c_tree_Tree_put (retG r_tree_Tree_put (fun d1 bx1 => Rt (sizeE bx) bx1 d1 d bx')) ⟨env0 0 ds, bx⟩) : TSpM 54 ds bx d bx' := SpM_of mixed c_tree_Tree_put r_tree_Tree_put (fn := Try.f54) (by kernel_rfl) (by kernel_rfl) comp_tree_Tree_put (by kernel_rfl) hn h
/-- (glazier/tree.Tree).other -/
def c_tree_Tree_other : C := .seq (.reg false [
  ⟨(some 2), none, .box true (.t 0), none⟩,
  ⟨(some 4), none, .mv false (.c (.int .i64 0)), none⟩] (some [1, 2])) (
.seq (.blk 0 (
  .seq (.reg false [
    ⟨(some 6), none, .mv false (.t 1), none⟩,
    ⟨(some 7), none, .bin .eql .u32 (.t 6) (.c (.int .u32 1)), none⟩,
    ⟨(some 5), none, .mv false (.t 7), none⟩] (some [1, 2, 5])) (
  .ite (.t 5) (
    .seq (.reg false [
      ⟨(some 4), none, .mv false (.c (.int .i64 23)), none⟩] (some [4])) (
    .ret)) (
    .seq (.reg false [
      ⟨(some 9), none, .ld (some 2) (.t 2), none⟩,
      ⟨(some 10), none, .mv false (.t 1), none⟩,
      ⟨(some 11), none, .call false 43 [(.t 9), (.t 10)], none⟩,
      ⟨(some 12), none, .not (.t 11), none⟩,
      ⟨(some 8), none, .mv false (.t 12), none⟩] (some [8])) (
    .ite (.t 8) (
      .seq (.reg false [
        ⟨(some 4), none, .mv false (.c (.int .i64 6)), none⟩] (some [4])) (
      .ret)) (
      .skip)))))) (
.seq (.reg false [
  ⟨(some 4), none, .mv false (.c (.int .i64 0)), none⟩] (some [4])) (
.ret)))
set_option maxRecDepth 1000000 in
theorem comp_tree_Tree_other : (Try.f61.body.bind fun code => compC Try.prog Try.f61.ntmps code c_tree_Tree_other) = some c_tree_Tree_other.bare := by kernel_rfl
def r_tree_Tree_other : List R := [.t 4]
theorem spo_tree_Tree_other {ds : List D} {d : D} (hn : Nat.ble ds.length 13 = true) (h : run TSpC gtab 0 c_tree_Tree_other (retK r_tree_Tree_other (· = d)) ⟨env0 0 ds, []⟩) : TSp 61 ds d := Sp_of mixed c_tree_Tree_other r_tree_Tree_other (fn := Try.f61) (by kernel_rfl) (by kernel_rfl) comp_tree_Tree_other (by kernel_rfl) hn h
theorem spm_tree_Tree_other {ds : List D} {d : D} {bx bx' : List Ent} (hn : Nat.ble ds.length 13 = true) (h : run TSpC gtab (sizeE bx) c_tree_Tree_other (retG r_tree_Tree_other (fun d1 bx1 => Rt (sizeE bx) bx1 d1 d bx')) ⟨env0 0 ds, bx⟩) : TSpM 61 ds bx d bx' := SpM_of mixed c_tree_Tree_other r_tree_Tree_other (fn := Try.f61) (by kernel_rfl) (by kernel_rfl) comp_tree_Tree_other (by kernel_rfl) hn h
/-- (glazier/tree.Tree).take -/
def c_tree_Tree_take : C := .seq (.reg false [
  ⟨(some 2), none, .box true (.t 0), none⟩,
  ⟨(some 3), none, .box false (.t 1), none⟩] (some [2, 3])) (
.seq (.reg false [
  ⟨(some 5), none, .fld 1 (.t 2), none⟩,
  ⟨(some 6), none, .ld none (.t 5), none⟩,
  ⟨(some 7), none, .ld none (.t 3), none⟩,
  ⟨(some 8), none, .prm false false (.lkp 29 false) [(.t 6), (.t 7)], none⟩,
  ⟨(some 4), none, .mv false (.t 8), none⟩] (some [2, 3, 4])) (
.reg true [
  ⟨(some 9), none, .fld 0 (.t 2), none⟩,
  ⟨(some 10), none, .ld none (.t 9), (some [4])⟩,
  ⟨(some 11), none, .mv false (.t 4), none⟩,
  ⟨(some 12), none, .fld 0 (.t 2), none⟩,
  ⟨(some 13), none, .ld none (.t 12), none⟩,
  ⟨(some 14), none, .mv false (.t 4), none⟩,
  ⟨(some 15), none, .prm false false (.lkp 28 false) [(.t 13), (.t 14)], none⟩,
  ⟨(some 16), none, .clo 69 [(.t 3)], none⟩,
  ⟨(some 17), none, .callK [1] 28 [(.t 15), (.t 16)], none⟩,
  ⟨none, none, .prm false true (.upd 28) [(.t 10), (.t 11), (.t 17)], none⟩] (some [])))
set_option maxRecDepth 1000000 in
theorem comp_tree_Tree_take : (Try.f62.body.bind fun code => compC Try.prog Try.f62.ntmps code c_tree_Tree_take) = some c_tree_Tree_take.bare := by kernel_rfl
def r_tree_Tree_take : List R := []
theorem spo_tree_Tree_take {ds : List D} {d : D} (hn : Nat.ble ds.length 18 = true) (h : run TSpC gtab 0 c_tree_Tree_take (retK r_tree_Tree_take (· = d)) ⟨env0 0 ds, []⟩) : TSp 62 ds d := Sp_of mixed c_tree_Tree_take r_tree_Tree_take (fn := Try.f62) (by kernel_rfl) (by kernel_rfl) comp_tree_Tree_take (by kernel_rfl) hn h
theorem spm_tree_Tree_take {ds : List D} {d : D} {bx bx' : List Ent} (hn : Nat.ble ds.length 18 = true) (h : run TSpC gtab (sizeE bx) c_tree_Tree_take (retG r_tree_Tree_take (fun d1 bx1 => Rt (sizeE bx) bx1 d1 d bx')) ⟨env0 0 ds, bx⟩) : TSpM 62 ds bx d bx' := SpM_of mixed c_tree_Tree_take r_tree_Tree_take (fn := Try.f62) (by kernel_rfl) (by kernel_rfl) comp_tree_Tree_take (by kernel_rfl) hn h
/-- slices.Clone[[]glazier/api.ID,glazier/api.ID] -/
def c_slices_Clone_api_ID_api_ID : C := .seq (.reg false [
  ⟨(some 2), none, .nilS 37 1, none⟩] (some [0])) (
.seq (.seq (.reg false [
  ⟨(some 3), none, .mv false (.t 0), none⟩,
  ⟨(some 4), none, .prm true false (.eqn false 69) [(.t 3)], none⟩] (some [0, 4])) (
.ite (.t 4) (
  .seq (.reg false [
    ⟨(some 2), none, .nilS 37 1, none⟩] (some [2])) (
  .ret)) (
  .skip))) (
.seq (.reg false [
  ⟨(some 5), none, .bsl (some false) 37 1 none [], none⟩,
  ⟨(some 6), none, .mv false (.t 0), none⟩,
  ⟨(some 7), none, .app 37 1 4 (.t 5) (.t 6), none⟩,
  ⟨(some 2), none, .mv false (.t 7), none⟩] (some [2])) (
.ret)))
set_option maxRecDepth 1000000 in
theorem comp_slices_Clone_api_ID_api_ID : (Try.f29.body.bind fun code => compC Try.prog Try.f29.ntmps code c_slices_Clone_api_ID_api_ID) = some c_slices_Clone_api_ID_api_ID.bare := by kernel_rfl
def r_slices_Clone_api_ID_api_ID : List R := [.t 2]
theorem spo_slices_Clone_api_ID_api_ID {ds : List D} {d : D} (hn : Nat.ble ds.length 8 = true) (h : run TSpC gtab 0 c_slices_Clone_api_ID_api_ID (retK r_slices_Clone_api_ID_api_ID (· = d)) ⟨env0 0 ds, []⟩) : TSp 29 ds d := Sp_of mixed c_slices_Clone_api_ID_api_ID r_slices_Clone_api_ID_api_ID (fn := Try.f29) (by kernel_rfl) (by kernel_rfl) comp_slices_Clone_api_ID_api_ID (by kernel_rfl) hn h
theorem spm_slices_Clone_api_ID_api_ID {ds : List D} {d : D} {bx bx' : List Ent} (hn : Nat.ble ds.length 8 = true) (h : run TSpC gtab (sizeE bx) c_slices_Clone_api_ID_api_ID (retG r_slices_Clone_api_ID_api_ID (fun d1 bx1 => Rt (sizeE bx) bx1 d1 d bx')) ⟨env0 0 ds, bx⟩) : TSpM 29 ds bx d bx' := SpM_of mixed c_slices_Clone_api_ID_api_ID r_slices_Clone_api_ID_api_ID (fn := Try.f29) (by kernel_rfl) (by kernel_rfl) comp_slices_Clone_api_ID_api_ID (by kernel_rfl) hn h
/-- glazier/ident.Client -/
def c_ident_Client : C := .seq (.reg false [
  ⟨(some 2), none, .mv false (.c (.int .i64 0)), none⟩,
  ⟨(some 3), none, .mv false (.c (.bool false)), none⟩] (some [0])) (
.seq (.seq (.reg false [
  ⟨(some 5), none, .mv false (.t 0), none⟩,
  ⟨(some 6), none, .bin .eql .u32 (.t 5) (.c (.int .u32 1)), none⟩] (some [0, 6])) (
.ite (.t 6) (
  .seq (.reg false [
    ⟨(some 2), none, .mv false (.c (.int .i64 0)), none⟩,
    ⟨(some 3), none, .mv false (.c (.bool true)), none⟩] (some [2, 3])) (
  .ret)) (
  .skip))) (
.seq (.reg false [
  ⟨(some 7), none, .mv false (.t 0), none⟩,
  ⟨(some 8), none, .bin .quo .u32 (.t 7) (.c (.int .u32 1048576)), none⟩,
  ⟨(some 9), none, .conv .i64 (.t 8), none⟩,
  ⟨(some 4), none, .mv false (.t 9), none⟩] (some [0, 4])) (
.seq (.seq (.reg false [
  ⟨(some 10), none, .mv false (.t 0), none⟩,
  ⟨(some 11), none, .bin .rem .u32 (.t 10) (.c (.int .u32 1048576)), none⟩,
  ⟨(some 12), none, .bin .eql .u32 (.t 11) (.c (.int .u32 0)), none⟩,
  ⟨(some 13), none, .mv false (.t 12), none⟩,
  ⟨(some 14), some (13, false), .mv false (.t 4), none⟩,
  ⟨(some 15), some (13, false), .call false 73 [(.t 14)], none⟩,
  ⟨(some 16), some (13, false), .not (.t 15), none⟩,
  ⟨(some 17), none, .pick (.t 13) (.c (.bool true)) (.t 16), none⟩] (some [4, 17])) (
.ite (.t 17) (
  .seq (.reg false [
    ⟨(some 2), none, .mv false (.c (.int .i64 0)), none⟩,
    ⟨(some 3), none, .mv false (.c (.bool false)), none⟩] (some [2, 3])) (
  .ret)) (
  .skip))) (
.seq (.reg false [
  ⟨(some 18), none, .mv false (.t 4), none⟩,
  ⟨(some 2), none, .mv false (.t 18), none⟩,
  ⟨(some 3), none, .mv false (.c (.bool true)), none⟩] (some [2, 3])) (
.ret)))))
set_option maxRecDepth 1000000 in
theorem comp_ident_Client : (Try.f67.body.bind fun code => compC Try.prog Try.f67.ntmps code c_ident_Client) = some c_ident_Client.bare := by kernel_rfl
def r_ident_Client : List R := [.t 2, .t 3]
theorem spo_ident_Client {ds : List D} {d : D} (hn : Nat.ble ds.length 19 = true) (h : run TSpC gtab 0 c_ident_Client (retK r_ident_Client (· = d)) ⟨env0 0 ds, []⟩) : TSp 67 ds d := Sp_of mixed c_ident_Client r_ident_Client (fn := Try.f67) (by kernel_rfl) (by kernel_rfl) comp_ident_Client (by kernel_rfl) hn h
theorem spm_ident_Client {ds : List D} {d : D} {bx bx' : List Ent} (hn : Nat.ble ds.length 19 = true) (h : run TSpC gtab (sizeE bx) c_ident_Client (retG r_ident_Client (fun d1 bx1 => Rt (sizeE bx) bx1 d1 d bx')) ⟨env0 0 ds, bx⟩) : TSpM 67 ds bx d bx' := SpM_of mixed c_ident_Client r_ident_Client (fn := Try.f67) (by kernel_rfl) (by kernel_rfl) comp_ident_Client (by kernel_rfl) hn h
/-- maps.Copy[map[glazier/api.ID]glazier/api.ID,map[glazier/api.ID]glazier/api.ID,glazier/api.ID,glazier/api.ID] -/
def c_maps_Copy_map_api_ID_api_ID_map_api_ID_api_ID_api_ID_api_ID : C := .seq (.reg false [
  ⟨(some 6), none, .mv false (.t 1), none⟩,
  ⟨(some 7), none, .prm false true (.rng 29) [(.t 6)], none⟩] (some [0, 7])) (
.blk 0 (
  .loop (
    .seq (.reg false [
      ⟨(some 8), none, .prm true false (.nxt false) [(.t 7)], none⟩,
      ⟨(some 9), none, .ext (.t 8) 0, none⟩] (some [0, 7, 9])) (
    .seq (.ite (.t 9) (
      .skip) (
      .exit 0)) (
    .blk 1 (
      .seq (.reg false [
        ⟨(some 10), none, .prm false false .ent [(.t 7)], none⟩,
        ⟨(some 11), none, .ext (.t 10) 0, none⟩,
        ⟨(some 12), none, .ext (.t 10) 1, none⟩,
        ⟨(some 4), none, .mv false (.t 11), none⟩,
        ⟨(some 5), none, .mv false (.t 12), none⟩] (some [0, 4, 5, 7])) (
      .reg false [
        ⟨(some 13), none, .mv false (.t 0), none⟩,
        ⟨(some 14), none, .mv false (.t 4), none⟩,
        ⟨(some 15), none, .mv false (.t 5), none⟩,
        ⟨none, none, .prm false true (.upd 29) [(.t 13), (.t 14), (.t 15)], none⟩] (some [0, 7]))))))))
set_option maxRecDepth 1000000 in
theorem comp_maps_Copy_map_api_ID_api_ID_map_api_ID_api_ID_api_ID_api_ID : (Try.f68.body.bind fun code => compC Try.prog Try.f68.ntmps code c_maps_Copy_map_api_ID_api_ID_map_api_ID_api_ID_api_ID_api_ID) = some c_maps_Copy_map_api_ID_api_ID_map_api_ID_api_ID_api_ID_api_ID.bare := by kernel_rfl
def r_maps_Copy_map_api_ID_api_ID_map_api_ID_api_ID_api_ID_api_ID : List R := []
theorem spo_maps_Copy_map_api_ID_api_ID_map_api_ID_api_ID_api_ID_api_ID {ds : List D} {d : D} (hn : Nat.ble ds.length 16 = true) (h : run TSpC gtab 0 c_maps_Copy_map_api_ID_api_ID_map_api_ID_api_ID_api_ID_api_ID (retK r_maps_Copy_map_api_ID_api_ID_map_api_ID_api_ID_api_ID_api_ID (· = d)) ⟨env0 0 ds, []⟩) : TSp 68 ds d := Sp_of mixed c_maps_Copy_map_api_ID_api_ID_map_api_ID_api_ID_api_ID_api_ID r_maps_Copy_map_api_ID_api_ID_map_api_ID_api_ID_api_ID_api_ID (fn := Try.f68) (by kernel_rfl) (by kernel_rfl) comp_maps_Copy_map_api_ID_api_ID_map_api_ID_api_ID_api_ID_api_ID (by kernel_rfl) hn h
theorem spm_maps_Copy_map_api_ID_api_ID_map_api_ID_api_ID_api_ID_api_ID {ds : List D} {d : D} {bx bx' : List Ent} (hn : Nat.ble ds.length 16 = true) (h : run TSpC gtab (sizeE bx) c_maps_Copy_map_api_ID_api_ID_map_api_ID_api_ID_api_ID_api_ID (retG r_maps_Copy_map_api_ID_api_ID_map_api_ID_api_ID_api_ID_api_ID (fun d1 bx1 => Rt (sizeE bx) bx1 d1 d bx')) ⟨env0 0 ds, bx⟩) : TSpM 68 ds bx d bx' := SpM_of mixed c_maps_Copy_map_api_ID_api_ID_map_api_ID_api_ID_api_ID_api_ID r_maps_Copy_map_api_ID_api_ID_map_api_ID_api_ID_api_ID_api_ID (fn := Try.f68) (by kernel_rfl) (by kernel_rfl) comp_maps_Copy_map_api_ID_api_ID_map_api_ID_api_ID_api_ID_api_ID (by kernel_rfl) hn h
/-- slices.Index[[]glazier/api.ID,glazier/api.ID] -/
def c_slices_Index_api_ID_api_ID : C := .seq (.reg false [
  ⟨(some 4), none, .mv false (.c (.int .i64 0)), none⟩] (some [0, 1])) (
.seq (.seq (.reg false [
  ⟨(some 6), none, .mv false (.t 0), none⟩,
  ⟨(some 7), none, .len false (.t 6), none⟩,
  ⟨(some 8), none, .mv false (.c (.int .i64 0)), none⟩] (some [0, 1, 7, 8])) (
.blk 0 (
  .loop (
    .seq (.reg false [
      ⟨(some 9), none, .bin .lss .i64 (.t 8) (.t 7), none⟩] (some [0, 1, 7, 8, 9])) (
    .seq (.ite (.t 9) (
      .skip) (
      .exit 0)) (
    .seq (.blk 1 (
      .seq (.reg false [
        ⟨(some 10), none, .mv false (.t 8), none⟩,
        ⟨(some 5), none, .mv false (.t 10), none⟩] (some [0, 1, 5, 7, 8])) (
      .seq (.reg false [
        ⟨(some 11), none, .mv false (.t 1), none⟩,
        ⟨(some 12), none, .mv false (.t 0), none⟩,
        ⟨(some 13), none, .mv false (.t 5), none⟩,
        ⟨(some 14), none, .ixs 1 (.t 12) (.t 13), none⟩,
        ⟨(some 15), none, .ld none (.t 14), none⟩,
        ⟨(some 16), none, .bin .eql .u32 (.t 11) (.t 15), none⟩] (some [0, 1, 5, 7, 8, 16])) (
      .ite (.t 16) (
        .seq (.reg false [
          ⟨(some 17), none, .mv false (.t 5), none⟩,
          ⟨(some 4), none, .mv false (.t 17), none⟩] (some [4])) (
        .ret)) (
        .skip))))) (
    .reg false [
      ⟨(some 18), none, .bin .add .i64 (.t 8) (.c (.int .i64 1)), none⟩,
      ⟨(some 8), none, .mv false (.t 18), none⟩] (some [0, 1, 7, 8])))))))) (
.seq (.reg false [
  ⟨(some 4), none, .mv false (.c (.int .i64 (-1))), none⟩] (some [4])) (
.ret)))
set_option maxRecDepth 1000000 in
theorem comp_slices_Index_api_ID_api_ID : (Try.f31.body.bind fun code => compC Try.prog Try.f31.ntmps code c_slices_Index_api_ID_api_ID) = some c_slices_Index_api_ID_api_ID.bare := by kernel_rfl
def r_slices_Index_api_ID_api_ID : List R := [.t 4]
theorem spo_slices_Index_api_ID_api_ID {ds : List D} {d : D} (hn : Nat.ble ds.length 19 = true) (h : run TSpC gtab 0 c_slices_Index_api_ID_api_ID (retK r_slices_Index_api_ID_api_ID (· = d)) ⟨env0 0 ds, []⟩) : TSp 31 ds d := Sp_of mixed c_slices_Index_api_ID_api_ID r_slices_Index_api_ID_api_ID (fn := Try.f31) (by kernel_rfl) (by kernel_rfl) comp_slices_Index_api_ID_api_ID (by kernel_rfl) hn h
theorem spm_slices_Index_api_ID_api_ID {ds : List D} {d : D} {bx bx' : List Ent} (hn : Nat.ble ds.length 19 = true) (h : run TSpC gtab (sizeE bx) c_slices_Index_api_ID_api_ID (retG r_slices_Index_api_ID_api_ID (fun d1 bx1 => Rt (sizeE bx) bx1 d1 d bx')) ⟨env0 0 ds, bx⟩) : TSpM 31 ds bx d bx' := SpM_of mixed c_slices_Index_api_ID_api_ID r_slices_Index_api_ID_api_ID (fn := Try.f31) (by kernel_rfl) (by kernel_rfl) comp_slices_Index_api_ID_api_ID (by kernel_rfl) hn h
/-- (glazier/tree.Tree).take$1 -/
def c_tree_Tree_take_1 : C := .seq (.reg false [
  ⟨(some 3), none, .mv false (.c (.bool false)), none⟩] (some [0, 1])) (
.seq (.reg false [
  ⟨(some 4), none, .mv false (.t 0), none⟩,
  ⟨(some 5), none, .ld none (.t 1), none⟩,
  ⟨(some 6), none, .bin .eql .u32 (.t 4) (.t 5), none⟩,
  ⟨(some 3), none, .mv false (.t 6), none⟩] (some [3])) (
.ret))
set_option maxRecDepth 1000000 in
theorem comp_tree_Tree_take_1 : (Try.f69.body.bind fun code => compC Try.prog Try.f69.ntmps code c_tree_Tree_take_1) = some c_tree_Tree_take_1.bare := by kernel_rfl
def r_tree_Tree_take_1 : List R := [.t 3]
theorem spo_tree_Tree_take_1 {ds : List D} {d : D} (hn : Nat.ble ds.length 7 = true) (h : run TSpC gtab 0 c_tree_Tree_take_1 (retK r_tree_Tree_take_1 (· = d)) ⟨env0 0 ds, []⟩) : TSp 69 ds d := Sp_of mixed c_tree_Tree_take_1 r_tree_Tree_take_1 (fn := Try.f69) (by kernel_rfl) (by kernel_rfl) comp_tree_Tree_take_1 (by kernel_rfl) hn h
theorem spm_tree_Tree_take_1 {ds : List D} {d : D} {bx bx' : List Ent} (hn : Nat.ble ds.length 7 = true) (h : run TSpC gtab (sizeE bx) c_tree_Tree_take_1 (retG r_tree_Tree_take_1 (fun d1 bx1 => Rt (sizeE bx) bx1 d1 d bx')) ⟨env0 0 ds, bx⟩) : TSpM 69 ds bx d bx' := SpM_of mixed c_tree_Tree_take_1 r_tree_Tree_take_1 (fn := Try.f69) (by kernel_rfl) (by kernel_rfl) comp_tree_Tree_take_1 (by kernel_rfl) hn h
/-- glazier/ident.isClient -/
def c_ident_isClient : C := .seq (.reg false [
  ⟨(some 2), none, .mv false (.c (.bool false)), none⟩] (some [0])) (
.seq (.reg false [
  ⟨(some 3), none, .mv false (.t 0), none⟩,
  ⟨(some 4), none, .bin .leq .i64 (.c (.int .i64 1)) (.t 3), none⟩,
  ⟨(some 5), none, .mv false (.t 4), none⟩,
  ⟨(some 6), some (5, true), .mv false (.t 0), none⟩,
  ⟨(some 7), some (5, true), .bin .leq .i64 (.t 6) (.c (.int .i64 8)), none⟩,
  ⟨(some 8), none, .pick (.t 5) (.t 7) (.c (.bool false)), none⟩,
  ⟨(some 2), none, .mv false (.t 8), none⟩] (some [2])) (
.ret))
set_option maxRecDepth 1000000 in
theorem comp_ident_isClient : (Try.f73.body.bind fun code => compC Try.prog Try.f73.ntmps code c_ident_isClient) = some c_ident_isClient.bare := by kernel_rfl
def r_ident_isClient : List R := [.t 2]
theorem spo_ident_isClient {ds : List D} {d : D} (hn : Nat.ble ds.length 9 = true) (h : run TSpC gtab 0 c_ident_isClient (retK r_ident_isClient (· = d)) ⟨env0 0 ds, []⟩) : TSp 73 ds d := Sp_of mixed c_ident_isClient r_ident_isClient (fn := Try.f73) (by kernel_rfl) (by kernel_rfl) comp_ident_isClient (by kernel_rfl) hn h
theorem spm_ident_isClient {ds : List D} {d : D} {bx bx' : List Ent} (hn : Nat.ble ds.length 9 = true) (h : run TSpC gtab (sizeE bx) c_ident_isClient (retG r_ident_isClient (fun d1 bx1 => Rt (sizeE bx) bx1 d1 d bx')) ⟨env0 0 ds, bx⟩) : TSpM 73 ds bx d bx' := SpM_of mixed c_ident_isClient r_ident_isClient (fn := Try.f73) (by kernel_rfl) (by kernel_rfl) comp_ident_isClient (by kernel_rfl) hn h
/-- glazier/stack.Restack$1 -/
def c_stack_Restack_1 : C := .seq (.reg false [
  ⟨(some 3), none, .mv false (.c (.bool false)), none⟩] (some [0, 1])) (
.seq (.reg false [
  ⟨(some 4), none, .mv false (.t 0), none⟩,
  ⟨(some 5), none, .ld none (.t 1), none⟩,
  ⟨(some 6), none, .bin .eql .u32 (.t 4) (.t 5), none⟩,
  ⟨(some 3), none, .mv false (.t 6), none⟩] (some [3])) (
.ret))
set_option maxRecDepth 1000000 in
theorem comp_stack_Restack_1 : (Try.f30.body.bind fun code => compC Try.prog Try.f30.ntmps code c_stack_Restack_1) = some c_stack_Restack_1.bare := by kernel_rfl
def r_stack_Restack_1 : List R := [.t 3]
theorem spo_stack_Restack_1 {ds : List D} {d : D} (hn : Nat.ble ds.length 7 = true) (h : run TSpC gtab 0 c_stack_Restack_1 (retK r_stack_Restack_1 (· = d)) ⟨env0 0 ds, []⟩) : TSp 30 ds d := Sp_of mixed c_stack_Restack_1 r_stack_Restack_1 (fn := Try.f30) (by kernel_rfl) (by kernel_rfl) comp_stack_Restack_1 (by kernel_rfl) hn h
theorem spm_stack_Restack_1 {ds : List D} {d : D} {bx bx' : List Ent} (hn : Nat.ble ds.length 7 = true) (h : run TSpC gtab (sizeE bx) c_stack_Restack_1 (retG r_stack_Restack_1 (fun d1 bx1 => Rt (sizeE bx) bx1 d1 d bx')) ⟨env0 0 ds, bx⟩) : TSpM 30 ds bx d bx' := SpM_of mixed c_stack_Restack_1 r_stack_Restack_1 (fn := Try.f30) (by kernel_rfl) (by kernel_rfl) comp_stack_Restack_1 (by kernel_rfl) hn h
/-- slices.IndexFunc[[]glazier/api.ID,glazier/api.ID] -/
def c_slices_IndexFunc_api_ID_api_ID : C := .seq (.reg false [
  ⟨(some 4), none, .mv false (.c (.int .i64 0)), none⟩] (some [0, 1])) (
.seq (.seq (.reg false [
  ⟨(some 6), none, .mv false (.t 0), none⟩,
  ⟨(some 7), none, .len false (.t 6), none⟩,
  ⟨(some 8), none, .mv false (.c (.int .i64 0)), none⟩] (some [0, 1, 7, 8])) (
.blk 0 (
  .loop (
    .seq (.reg false [
      ⟨(some 9), none, .bin .lss .i64 (.t 8) (.t 7), none⟩] (some [0, 1, 7, 8, 9])) (
    .seq (.ite (.t 9) (
      .skip) (
      .exit 0)) (
    .seq (.blk 1 (
      .seq (.reg false [
        ⟨(some 10), none, .mv false (.t 8), none⟩,
        ⟨(some 5), none, .mv false (.t 10), none⟩] (some [0, 1, 5, 7, 8])) (
      .seq (.reg false [
        ⟨(some 11), none, .mv false (.t 1), none⟩,
        ⟨(some 12), none, .mv false (.t 0), none⟩,
        ⟨(some 13), none, .mv false (.t 5), none⟩,
        ⟨(some 14), none, .ixs 1 (.t 12) (.t 13), none⟩,
        ⟨(some 15), none, .ld none (.t 14), none⟩,
        ⟨(some 16), none, .callv false (.t 11) [(.t 15)], none⟩] (some [0, 1, 5, 7, 8, 16])) (
      .ite (.t 16) (
        .seq (.reg false [
          ⟨(some 17), none, .mv false (.t 5), none⟩,
          ⟨(some 4), none, .mv false (.t 17), none⟩] (some [4])) (
        .ret)) (
        .skip))))) (
    .reg false [
      ⟨(some 18), none, .bin .add .i64 (.t 8) (.c (.int .i64 1)), none⟩,
      ⟨(some 8), none, .mv false (.t 18), none⟩] (some [0, 1, 7, 8])))))))) (
.seq (.reg false [
  ⟨(some 4), none, .mv false (.c (.int .i64 (-1))), none⟩] (some [4])) (
.ret)))
set_option maxRecDepth 1000000 in
theorem comp_slices_IndexFunc_api_ID_api_ID : (Try.f55.body.bind fun code => compC Try.prog Try.f55.ntmps code c_slices_IndexFunc_api_ID_api_ID) = some c_slices_IndexFunc_api_ID_api_ID.bare := by kernel_rfl
def r_slices_IndexFunc_api_ID_api_ID : List R := [.t 4]
theorem spo_slices_IndexFunc_api_ID_api_ID {ds : List D} {d : D} (hn : Nat.ble ds.length 19 = true) (h : run TSpC gtab 0 c_slices_IndexFunc_api_ID_api_ID (retK r_slices_IndexFunc_api_ID_api_ID (· = d)) ⟨env0 0 ds, []⟩) : TSp 55 ds d := Sp_of mixed c_slices_IndexFunc_api_ID_api_ID r_slices_IndexFunc_api_ID_api_ID (fn := Try.f55) (by kernel_rfl) (by kernel_rfl) comp_slices_IndexFunc_api_ID_api_ID (by kernel_rfl) hn h
theorem spm_slices_IndexFunc_api_ID_api_ID {ds : List D} {d : D} {bx bx' : List Ent} (hn : Nat.ble ds.length 19 = true) (h : run TSpC gtab (sizeE bx) c_slices_IndexFunc_api_ID_api_ID (retG r_slices_IndexFunc_api_ID_api_ID (fun d1 bx1 => Rt (sizeE bx) bx1 d1 d bx')) ⟨env0 0 ds, bx⟩) : TSpM 55 ds bx d bx' := SpM_of mixed c_slices_IndexFunc_api_ID_api_ID r_slices_IndexFunc_api_ID_api_ID (fn := Try.f55) (by kernel_rfl) (by kernel_rfl) comp_slices_IndexFunc_api_ID_api_ID (by kernel_rfl) hn h
/-- slices.ContainsFunc[[]glazier/api.ID,glazier/api.ID] -/
def c_slices_ContainsFunc_api_ID_api_ID : C := .seq (.reg false [
  ⟨(some 4), none, .mv false (.c (.bool false)), none⟩] (some [0, 1])) (
.seq (.reg false [
  ⟨(some 5), none, .mv false (.t 0), none⟩,
  ⟨(some 6), none, .mv false (.t 1), none⟩,
  ⟨(some 7), none, .call false 55 [(.t 5), (.t 6)], none⟩,
  ⟨(some 8), none, .bin .geq .i64 (.t 7) (.c (.int .i64 0)), none⟩,
  ⟨(some 4), none, .mv false (.t 8), none⟩] (some [4])) (
.ret))
set_option maxRecDepth 1000000 in
theorem comp_slices_ContainsFunc_api_ID_api_ID : (Try.f33.body.bind fun code => compC Try.prog Try.f33.ntmps code c_slices_ContainsFunc_api_ID_api_ID) = some c_slices_ContainsFunc_api_ID_api_ID.bare := by kernel_rfl
def r_slices_ContainsFunc_api_ID_api_ID : List R := [.t 4]
theorem spo_slices_ContainsFunc_api_ID_api_ID {ds : List D} {d : D} (hn : Nat.ble ds.length 9 = true) (h : run TSpC gtab 0 c_slices_ContainsFunc_api_ID_api_ID (retK r_slices_ContainsFunc_api_ID_api_ID (· = d)) ⟨env0 0 ds, []⟩) : TSp 33 ds d := Sp_of mixed c_slices_ContainsFunc_api_ID_api_ID r_slices_ContainsFunc_api_ID_api_ID (fn := Try.f33) (by kernel_rfl) (by kernel_rfl) comp_slices_ContainsFunc_api_ID_api_ID (by kernel_rfl) hn h
theorem spm_slices_ContainsFunc_api_ID_api_ID {ds : List D} {d : D} {bx bx' : List Ent} (hn : Nat.ble ds.length 9 = true) (h : run TSpC gtab (sizeE bx) c_slices_ContainsFunc_api_ID_api_ID (retG r_slices_ContainsFunc_api_ID_api_ID (fun d1 bx1 => Rt (sizeE bx) bx1 d1 d bx')) ⟨env0 0 ds, bx⟩) : TSpM 33 ds bx d bx' := SpM_of mixed c_slices_ContainsFunc_api_ID_api_ID r_slices_ContainsFunc_api_ID_api_ID (fn := Try.f33) (by kernel_rfl) (by kernel_rfl) comp_slices_ContainsFunc_api_ID_api_ID (by kernel_rfl) hn h
/-- glazier/stack.Order -/
def c_stack_Order : C := .seq (.reg false [
  ⟨(some 3), none, .box true (.t 0), none⟩,
  ⟨(some 6), none, .mv false (.c (.int .i64 0)), none⟩,
  ⟨(some 7), none, .mv false (.c (.bool false)), none⟩] (some [1, 2, 3])) (
.seq (.seq (.reg false [
  ⟨(some 13), none, .mv false (.t 1), none⟩,
  ⟨(some 14), none, .mv false (.t 2), none⟩,
  ⟨(some 15), none, .bin .eql .u32 (.t 13) (.t 14), none⟩] (some [1, 2, 3, 15])) (
.ite (.t 15) (
  .seq (.reg false [
    ⟨(some 16), none, .ld (some 2) (.t 3), none⟩,
    ⟨(some 17), none, .mv false (.t 1), none⟩,
    ⟨(some 18), none, .call false 43 [(.t 16), (.t 17)], none⟩,
    ⟨(some 6), none, .mv false (.c (.int .i64 0)), none⟩,
    ⟨(some 7), none, .mv false (.t 18), none⟩] (some [6, 7])) (
  .ret)) (
  .skip))) (
.seq (.reg false [
  ⟨(some 20), none, .ld (some 2) (.t 3), none⟩,
  ⟨(some 21), none, .mv false (.t 1), none⟩,
  ⟨(some 22), none, .call false 26 [(.t 20), (.t 21)], none⟩,
  ⟨(some 19), none, .mv false (.t 22), none⟩,
  ⟨(some 23), none, .ext (.t 19) 0, none⟩,
  ⟨(some 24), none, .ext (.t 19) 1, none⟩,
  ⟨(some 8), none, .mv false (.t 23), none⟩,
  ⟨(some 9), none, .mv false (.t 24), none⟩] (some [1, 2, 3, 8, 9])) (
.seq (.reg false [
  ⟨(some 26), none, .ld (some 2) (.t 3), none⟩,
  ⟨(some 27), none, .mv false (.t 2), none⟩,
  ⟨(some 28), none, .call false 26 [(.t 26), (.t 27)], none⟩,
  ⟨(some 25), none, .mv false (.t 28), none⟩,
  ⟨(some 29), none, .ext (.t 25) 0, none⟩,
  ⟨(some 30), none, .ext (.t 25) 1, none⟩,
  ⟨(some 10), none, .mv false (.t 29), none⟩,
  ⟨(some 11), none, .mv false (.t 30), none⟩] (some [1, 2, 3, 8, 9, 10, 11])) (
.seq (.seq (.reg false [
  ⟨(some 31), none, .mv false (.t 9), none⟩,
  ⟨(some 32), none, .not (.t 31), none⟩,
  ⟨(some 33), none, .mv false (.t 32), none⟩,
  ⟨(some 34), some (33, false), .mv false (.t 11), none⟩,
  ⟨(some 35), some (33, false), .not (.t 34), none⟩,
  ⟨(some 36), none, .pick (.t 33) (.c (.bool true)) (.t 35), none⟩,
  ⟨(some 37), none, .mv false (.t 36), none⟩,
  ⟨(some 38), some (37, false), .mv false (.t 8), none⟩,
  ⟨(some 39), some (37, false), .mv false (.t 10), none⟩,
  ⟨(some 40), some (37, false), .bin .neq .u32 (.t 38) (.t 39), none⟩,
  ⟨(some 41), none, .pick (.t 37) (.c (.bool true)) (.t 40), none⟩] (some [1, 2, 3, 8, 41])) (
.ite (.t 41) (
  .seq (.reg false [
    ⟨(some 6), none, .mv false (.c (.int .i64 0)), none⟩,
    ⟨(some 7), none, .mv false (.c (.bool false)), none⟩] (some [6, 7])) (
  .ret)) (
  .skip))) (
.seq (.reg false [
  ⟨(some 42), none, .ld (some 2) (.t 3), none⟩,
  ⟨(some 43), none, .mv false (.t 8), none⟩,
  ⟨(some 44), none, .call false 27 [(.t 42), (.t 43)], none⟩,
  ⟨(some 12), none, .mv false (.t 44), none⟩] (some [1, 2, 12])) (
.seq (.seq (.reg false [
  ⟨(some 45), none, .mv false (.t 12), none⟩,
  ⟨(some 46), none, .mv false (.t 1), none⟩,
  ⟨(some 47), none, .call false 31 [(.t 45), (.t 46)], none⟩,
  ⟨(some 48), none, .mv false (.t 12), none⟩,
  ⟨(some 49), none, .mv false (.t 2), none⟩,
  ⟨(some 50), none, .call false 31 [(.t 48), (.t 49)], none⟩,
  ⟨(some 51), none, .bin .gtr .i64 (.t 47) (.t 50), none⟩] (some [51])) (
.ite (.t 51) (
  .seq (.reg false [
    ⟨(some 6), none, .mv false (.c (.int .i64 1)), none⟩,
    ⟨(some 7), none, .mv false (.c (.bool true)), none⟩] (some [6, 7])) (
  .ret)) (
  .skip))) (
.seq (.reg false [
  ⟨(some 6), none, .mv false (.c (.int .i64 (-1))), none⟩,
  ⟨(some 7), none, .mv false (.c (.bool true)), none⟩] (some [6, 7])) (
.ret))))))))
set_option maxRecDepth 1000000 in
theorem comp_stack_Order : (Try.f18.body.bind fun code => compC Try.prog Try.f18.ntmps code c_stack_Order) = some c_stack_Order.bare := by kernel_rfl
def r_stack_Order : List R := [.t 6, .t 7]
theorem spo_stack_Order {ds : List D} {d : D} (hn : Nat.ble ds.length 52 = true) (h : run TSpC gtab 0 c_stack_Order (retK r_stack_Order (· = d)) ⟨env0 0 ds, []⟩) : TSp 18 ds d := Sp_of mixed c_stack_Order r_stack_Order (fn := Try.f18) (by kernel_rfl) (by kernel_rfl) comp_stack_Order (by kernel_rfl) hn h
theorem spm_stack_Order {ds : List D} {d : D} {bx bx' : List Ent} (hn : Nat.ble ds.length 52 = true) (h : run TSpC gtab (sizeE bx) c_stack_Order (retG r_stack_Order (fun d1 bx1 => Rt (sizeE bx) bx1 d1 d bx')) ⟨env0 0 ds, bx⟩) : TSpM 18 ds bx d bx' := SpM_of mixed c_stack_Order r_stack_Order (fn := Try.f18) (by kernel_rfl) (by kernel_rfl) comp_stack_Order (by kernel_rfl) hn h
/-- glazier/rect.Empty -/
def c_rect_Empty : C := .seq (.reg false [
  ⟨(some 1), none, .box true (.t 0), none⟩,
  ⟨(some 2), none, .mv false (.c (.bool false)), none⟩] (some [1])) (
.seq (.reg false [
  ⟨(some 3), none, .ld (some 4) (.t 1), none⟩,
  ⟨(some 4), none, .call false 64 [(.t 3)], none⟩,
  ⟨(some 5), none, .bld [(.int .i64 0), (.int .i64 0), (.int .i64 0), (.int .i64 0)] [], none⟩,
  ⟨(some 6), none, .eqS false [.i .i64, .i .i64, .i .i64, .i .i64] (.t 4) (.t 5), none⟩,
  ⟨(some 2), none, .mv false (.t 6), none⟩] (some [2])) (
.ret))
set_option maxRecDepth 1000000 in
theorem comp_rect_Empty : (Try.f44.body.bind fun code => compC Try.prog Try.f44.ntmps code c_rect_Empty) = some c_rect_Empty.bare := by kernel_rfl
def r_rect_Empty : List R := [.t 2]
theorem spo_rect_Empty {ds : List D} {d : D} (hn : Nat.ble ds.length 7 = true) (h : run TSpC gtab 0 c_rect_Empty (retK r_rect_Empty (· = d)) ⟨env0 0 ds, []⟩) : TSp 44 ds d := Sp_of mixed c_rect_Empty r_rect_Empty (fn := Try.f44) (by kernel_rfl) (by kernel_rfl) comp_rect_Empty (by kernel_rfl) hn h
theorem spm_rect_Empty {ds : List D} {d : D} {bx bx' : List Ent} (hn : Nat.ble ds.length 7 = true) (h : run TSpC gtab (sizeE bx) c_rect_Empty (retG r_rect_Empty (fun d1 bx1 => Rt (sizeE bx) bx1 d1 d bx')) ⟨env0 0 ds, bx⟩) : TSpM 44 ds bx d bx' := SpM_of mixed c_rect_Empty r_rect_Empty (fn := Try.f44) (by kernel_rfl) (by kernel_rfl) comp_rect_Empty (by kernel_rfl) hn h
/-- glazier/rect.right -/
def c_rect_right : C := .seq (.reg false [
  ⟨(some 1), none, .box true (.t 0), none⟩,
  ⟨(some 2), none, .alloc [(.int .i64 0), (.int .i64 0), (.int .i64 0), (.int .i64 0)], none⟩] (some [1, 2])) (
.seq (.seq (.reg false [
  ⟨(some 3), none, .ld (some 4) (.t 1), none⟩,
  ⟨(some 4), none, .call false 72 [(.t 3)], none⟩,
  ⟨(some 5), none, .bin .neq .i64 (.t 4) (.c (.int .i64 0)), none⟩] (some [1, 2, 5])) (
.ite (.t 5) (
  .seq (.reg false [
    ⟨(some 6), none, .bld [(.int .i64 0), (.int .i64 0), (.int .i64 0), (.int .i64 0)] [], none⟩,
    ⟨none, none, .st (some 4) (.t 2) (.t 6), none⟩] (some [2])) (
  .ret)) (
  .skip))) (
.seq (.reg false [
  ⟨(some 7), none, .ld (some 4) (.t 1), none⟩,
  ⟨none, none, .st (some 4) (.t 2) (.t 7), none⟩] (some [2])) (
.ret)))
set_option maxRecDepth 1000000 in
theorem comp_rect_right : (Try.f64.body.bind fun code => compC Try.prog Try.f64.ntmps code c_rect_right) = some c_rect_right.bare := by kernel_rfl
def r_rect_right : List R := [.cell 2 (some 4)]
theorem spo_rect_right {ds : List D} {d : D} (hn : Nat.ble ds.length 8 = true) (h : run TSpC gtab 0 c_rect_right (retK r_rect_right (· = d)) ⟨env0 0 ds, []⟩) : TSp 64 ds d := Sp_of mixed c_rect_right r_rect_right (fn := Try.f64) (by kernel_rfl) (by kernel_rfl) comp_rect_right (by kernel_rfl) hn h
theorem spm_rect_right {ds : List D} {d : D} {bx bx' : List Ent} (hn : Nat.ble ds.length 8 = true) (h : run TSpC gtab (sizeE bx) c_rect_right (retG r_rect_right (fun d1 bx1 => Rt (sizeE bx) bx1 d1 d bx')) ⟨env0 0 ds, bx⟩) : TSpM 64 ds bx d bx' := SpM_of mixed c_rect_right r_rect_right (fn := Try.f64) (by kernel_rfl) (by kernel_rfl) comp_rect_right (by kernel_rfl) hn h
/-- glazier/rect.between -/
def c_rect_between : C := .seq (.reg false [
  ⟨(some 8), none, .alloc [(.int .i64 0), (.int .i64 0), (.int .i64 0), (.int .i64 0)], none⟩] (some [0, 1, 2, 3, 8])) (
.seq (.seq (.reg false [
  ⟨(some 9), none, .mv false (.t 0), none⟩,
  ⟨(some 10), none, .mv false (.t 2), none⟩,
  ⟨(some 11), none, .bin .geq .i64 (.t 9) (.t 10), none⟩,
  ⟨(some 12), none, .mv false (.t 11), none⟩,
  ⟨(some 13), some (12, false), .mv false (.t 1), none⟩,
  ⟨(some 14), some (12, false), .mv false (.t 3), none⟩,
  ⟨(some 15), some (12, false), .bin .geq .i64 (.t 13) (.t 14), none⟩,
  ⟨(some 16), none, .pick (.t 12) (.c (.bool true)) (.t 15), none⟩] (some [0, 1, 2, 3, 8, 16])) (
.ite (.t 16) (
  .seq (.reg false [
    ⟨(some 17), none, .bld [(.int .i64 0), (.int .i64 0), (.int .i64 0), (.int .i64 0)] [], none⟩,
    ⟨none, none, .st (some 4) (.t 8) (.t 17), none⟩] (some [8])) (
  .ret)) (
  .skip))) (
.seq (.reg false [
  ⟨(some 18), none, .mv false (.t 0), none⟩,
  ⟨(some 19), none, .mv false (.t 1), none⟩,
  ⟨(some 20), none, .mv false (.t 2), none⟩,
  ⟨(some 21), none, .mv false (.t 0), none⟩,
  ⟨(some 22), none, .bin .sub .i64 (.t 20) (.t 21), none⟩,
  ⟨(some 23), none, .mv false (.t 3), none⟩,
  ⟨(some 24), none, .mv false (.t 1), none⟩,
  ⟨(some 25), none, .bin .sub .i64 (.t 23) (.t 24), none⟩,
  ⟨(some 26), none, .bld [(.int .i64 0), (.int .i64 0), (.int .i64 0), (.int .i64 0)] [(0, none, (.t 18)), (1, none, (.t 19)), (2, none, (.t 22)), (3, none, (.t 25))], none⟩,
  ⟨none, none, .st (some 4) (.t 8) (.t 26), none⟩] (some [8])) (
.ret)))
set_option maxRecDepth 1000000 in
theorem comp_rect_between : (Try.f65.body.bind fun code => compC Try.prog Try.f65.ntmps code c_rect_between) = some c_rect_between.bare := by kernel_rfl
def r_rect_between : List R := [.cell 8 (some 4)]
theorem spo_rect_between {ds : List D} {d : D} (hn : Nat.ble ds.length 27 = true) (h : run TSpC gtab 0 c_rect_between (retK r_rect_between (· = d)) ⟨env0 0 ds, []⟩) : TSp 65 ds d := Sp_of mixed c_rect_between r_rect_between (fn := Try.f65) (by kernel_rfl) (by kernel_rfl) comp_rect_between (by kernel_rfl) hn h
theorem spm_rect_between {ds : List D} {d : D} {bx bx' : List Ent} (hn : Nat.ble ds.length 27 = true) (h : run TSpC gtab (sizeE bx) c_rect_between (retG r_rect_between (fun d1 bx1 => Rt (sizeE bx) bx1 d1 d bx')) ⟨env0 0 ds, bx⟩) : TSpM 65 ds bx d bx' := SpM_of mixed c_rect_between r_rect_between (fn := Try.f65) (by kernel_rfl) (by kernel_rfl) comp_rect_between (by kernel_rfl) hn h
/-- glazier/rect.Cross -/
def c_rect_Cross : C := .seq (.reg false [
  ⟨(some 2), none, .box true (.t 0), none⟩,
  ⟨(some 3), none, .box true (.t 1), none⟩,
  ⟨(some 4), none, .alloc [(.int .i64 0), (.int .i64 0), (.int .i64 0), (.int .i64 0)], none⟩] (some [2, 3, 4])) (
.seq (.seq (.reg false [
  ⟨(some 5), none, .ld (some 4) (.t 2), none⟩,
  ⟨(some 6), none, .call false 44 [(.t 5)], none⟩,
  ⟨(some 7), none, .mv false (.t 6), none⟩,
  ⟨(some 8), some (7, false), .ld (some 4) (.t 3), none⟩,
  ⟨(some 9), some (7, false), .call false 44 [(.t 8)], none⟩,
  ⟨(some 10), none, .pick (.t 7) (.c (.bool true)) (.t 9), none⟩] (some [2, 3, 4, 10])) (
.ite (.t 10) (
  .seq (.reg false [
    ⟨(some 11), none, .bld [(.int .i64 0), (.int .i64 0), (.int .i64 0), (.int .i64 0)] [], none⟩,
    ⟨none, none, .st (some 4) (.t 4) (.t 11), none⟩] (some [4])) (
  .ret)) (
  .skip))) (
.seq (.reg false [
  ⟨(some 12), none, .fld 0 (.t 2), none⟩,
  ⟨(some 13), none, .ld none (.t 12), none⟩,
  ⟨(some 14), none, .fld 0 (.t 3), none⟩,
  ⟨(some 15), none, .ld none (.t 14), none⟩,
  ⟨(some 16), none, .mx (.t 13) (.t 15), none⟩,
  ⟨(some 17), none, .fld 1 (.t 2), none⟩,
  ⟨(some 18), none, .ld none (.t 17), none⟩,
  ⟨(some 19), none, .fld 1 (.t 3), none⟩,
  ⟨(some 20), none, .ld none (.t 19), none⟩,
  ⟨(some 21), none, .mx (.t 18) (.t 20), none⟩,
  ⟨(some 22), none, .fld 0 (.t 2), none⟩,
  ⟨(some 23), none, .ld none (.t 22), none⟩,
  ⟨(some 24), none, .fld 2 (.t 2), none⟩,
  ⟨(some 25), none, .ld none (.t 24), none⟩,
  ⟨(some 26), none, .bin .add .i64 (.t 23) (.t 25), none⟩,
  ⟨(some 27), none, .fld 0 (.t 3), none⟩,
  ⟨(some 28), none, .ld none (.t 27), none⟩,
  ⟨(some 29), none, .fld 2 (.t 3), none⟩,
  ⟨(some 30), none, .ld none (.t 29), none⟩,
  ⟨(some 31), none, .bin .add .i64 (.t 28) (.t 30), none⟩,
  ⟨(some 32), none, .mn (.t 26) (.t 31), none⟩,
  ⟨(some 33), none, .fld 1 (.t 2), none⟩,
  ⟨(some 34), none, .ld none (.t 33), none⟩,
  ⟨(some 35), none, .fld 3 (.t 2), none⟩,
  ⟨(some 36), none, .ld none (.t 35), none⟩,
  ⟨(some 37), none, .bin .add .i64 (.t 34) (.t 36), none⟩,
  ⟨(some 38), none, .fld 1 (.t 3), none⟩,
  ⟨(some 39), none, .ld none (.t 38), none⟩,
  ⟨(some 40), none, .fld 3 (.t 3), none⟩,
  ⟨(some 41), none, .ld none (.t 40), none⟩,
  ⟨(some 42), none, .bin .add .i64 (.t 39) (.t 41), none⟩,
  ⟨(some 43), none, .mn (.t 37) (.t 42), none⟩,
  ⟨(some 44), none, .call false 65 [(.t 16), (.t 21), (.t 32), (.t 43)], none⟩,
  ⟨none, none, .st (some 4) (.t 4) (.t 44), none⟩] (some [4])) (
.ret)))
set_option maxRecDepth 1000000 in
theorem comp_rect_Cross : (Try.f45.body.bind fun code => compC Try.prog Try.f45.ntmps code c_rect_Cross) = some c_rect_Cross.bare := by kernel_rfl
def r_rect_Cross : List R := [.cell 4 (some 4)]
theorem spo_rect_Cross {ds : List D} {d : D} (hn : Nat.ble ds.length 45 = true) (h : run TSpC gtab 0 c_rect_Cross (retK r_rect_Cross (· = d)) ⟨env0 0 ds, []⟩) : TSp 45 ds d := Sp_of mixed c_rect_Cross r_rect_Cross (fn := Try.f45) (by kernel_rfl) (by kernel_rfl) comp_rect_Cross (by kernel_rfl) hn h
theorem spm_rect_Cross {ds : List D} {d : D} {bx bx' : List Ent} (hn : Nat.ble ds.length 45 = true) (h : run TSpC gtab (sizeE bx) c_rect_Cross (retG r_rect_Cross (fun d1 bx1 => Rt (sizeE bx) bx1 d1 d bx')) ⟨env0 0 ds, bx⟩) : TSpM 45 ds bx d bx' := SpM_of mixed c_rect_Cross r_rect_Cross (fn := Try.f45) (by kernel_rfl) (by kernel_rfl) comp_rect_Cross (by kernel_rfl) hn h
/-- glazier/glazierref13.Counts -/
def c_ref13_Counts : C := .seq (.reg false [
  ⟨(some 1), none, .box true (.t 0), none⟩,
  ⟨(some 2), none, .mv false (.c (.bool false)), none⟩] (some [1])) (
.seq (.seq (.reg false [
  ⟨(some 3), none, .fld 2 (.t 1), none⟩,
  ⟨(some 4), none, .ld none (.t 3), none⟩,
  ⟨(some 5), none, .bin .lss .i64 (.t 4) (.c (.int .i64 1)), none⟩,
  ⟨(some 6), none, .mv false (.t 5), none⟩,
  ⟨(some 7), some (6, false), .fld 3 (.t 1), none⟩,
  ⟨(some 8), some (6, false), .ld none (.t 7), none⟩,
  ⟨(some 9), some (6, false), .bin .lss .i64 (.t 8) (.c (.int .i64 1)), none⟩,
  ⟨(some 10), none, .pick (.t 6) (.c (.bool true)) (.t 9), none⟩,
  ⟨(some 11), none, .mv false (.t 10), none⟩,
  ⟨(some 12), some (11, false), .fld 2 (.t 1), none⟩,
  ⟨(some 13), some (11, false), .ld none (.t 12), none⟩,
  ⟨(some 14), some (11, false), .bin .gtr .i64 (.t 13) (.c (.int .i64 2097152)), none⟩,
  ⟨(some 15), none, .pick (.t 11) (.c (.bool true)) (.t 14), none⟩,
  ⟨(some 16), none, .mv false (.t 15), none⟩,
  ⟨(some 17), some (16, false), .fld 3 (.t 1), none⟩,
  ⟨(some 18), some (16, false), .ld none (.t 17), none⟩,
  ⟨(some 19), some (16, false), .bin .gtr .i64 (.t 18) (.c (.int .i64 2097152)), none⟩,
  ⟨(some 20), none, .pick (.t 16) (.c (.bool true)) (.t 19), none⟩,
  ⟨(some 21), none, .mv false (.t 20), none⟩,
  ⟨(some 22), some (21, false), .fld 0 (.t 1), none⟩,
  ⟨(some 23), some (21, false), .ld none (.t 22), none⟩,
  ⟨(some 24), some (21, false), .bin .lss .i64 (.t 23) (.c (.int .i64 (-1048576))), none⟩,
  ⟨(some 25), none, .pick (.t 21) (.c (.bool true)) (.t 24), none⟩,
  ⟨(some 26), none, .mv false (.t 25), none⟩,
  ⟨(some 27), some (26, false), .fld 1 (.t 1), none⟩,
  ⟨(some 28), some (26, false), .ld none (.t 27), none⟩,
  ⟨(some 29), some (26, false), .bin .lss .i64 (.t 28) (.c (.int .i64 (-1048576))), none⟩,
  ⟨(some 30), none, .pick (.t 26) (.c (.bool true)) (.t 29), none⟩,
  ⟨(some 31), none, .mv false (.t 30), none⟩,
  ⟨(some 32), some (31, false), .fld 0 (.t 1), none⟩,
  ⟨(some 33), some (31, false), .ld none (.t 32), none⟩,
  ⟨(some 34), some (31, false), .bin .gtr .i64 (.t 33) (.c (.int .i64 1048576)), none⟩,
  ⟨(some 35), none, .pick (.t 31) (.c (.bool true)) (.t 34), none⟩,
  ⟨(some 36), none, .mv false (.t 35), none⟩,
  ⟨(some 37), some (36, false), .fld 1 (.t 1), none⟩,
  ⟨(some 38), some (36, false), .ld none (.t 37), none⟩,
  ⟨(some 39), some (36, false), .bin .gtr .i64 (.t 38) (.c (.int .i64 1048576)), none⟩,
  ⟨(some 40), none, .pick (.t 36) (.c (.bool true)) (.t 39), none⟩] (some [1, 40])) (
.ite (.t 40) (
  .seq (.reg false [
    ⟨(some 2), none, .mv false (.c (.bool false)), none⟩] (some [2])) (
  .ret)) (
  .skip))) (
.seq (.reg false [
  ⟨(some 41), none, .fld 0 (.t 1), none⟩,
  ⟨(some 42), none, .ld none (.t 41), none⟩,
  ⟨(some 43), none, .fld 2 (.t 1), none⟩,
  ⟨(some 44), none, .ld none (.t 43), none⟩,
  ⟨(some 45), none, .bin .add .i64 (.t 42) (.t 44), none⟩,
  ⟨(some 46), none, .bin .leq .i64 (.t 45) (.c (.int .i64 1048576)), none⟩,
  ⟨(some 47), none, .mv false (.t 46), none⟩,
  ⟨(some 48), some (47, true), .fld 1 (.t 1), none⟩,
  ⟨(some 49), some (47, true), .ld none (.t 48), none⟩,
  ⟨(some 50), some (47, true), .fld 3 (.t 1), none⟩,
  ⟨(some 51), some (47, true), .ld none (.t 50), none⟩,
  ⟨(some 52), some (47, true), .bin .add .i64 (.t 49) (.t 51), none⟩,
  ⟨(some 53), some (47, true), .bin .leq .i64 (.t 52) (.c (.int .i64 1048576)), none⟩,
  ⟨(some 54), none, .pick (.t 47) (.t 53) (.c (.bool false)), none⟩,
  ⟨(some 2), none, .mv false (.t 54), none⟩] (some [2])) (
.ret)))
set_option maxRecDepth 1000000 in
theorem comp_ref13_Counts : (Try.f66.body.bind fun code => compC Try.prog Try.f66.ntmps code c_ref13_Counts) = some c_ref13_Counts.bare := by kernel_rfl
def r_ref13_Counts : List R := [.t 2]
theorem spo_ref13_Counts {ds : List D} {d : D} (hn : Nat.ble ds.length 55 = true) (h : run TSpC gtab 0 c_ref13_Counts (retK r_ref13_Counts (· = d)) ⟨env0 0 ds, []⟩) : TSp 66 ds d := Sp_of mixed c_ref13_Counts r_ref13_Counts (fn := Try.f66) (by kernel_rfl) (by kernel_rfl) comp_ref13_Counts (by kernel_rfl) hn h
theorem spm_ref13_Counts {ds : List D} {d : D} {bx bx' : List Ent} (hn : Nat.ble ds.length 55 = true) (h : run TSpC gtab (sizeE bx) c_ref13_Counts (retG r_ref13_Counts (fun d1 bx1 => Rt (sizeE bx) bx1 d1 d bx')) ⟨env0 0 ds, bx⟩) : TSpM 66 ds bx d bx' := SpM_of mixed c_ref13_Counts r_ref13_Counts (fn := Try.f66) (by kernel_rfl) (by kernel_rfl) comp_ref13_Counts (by kernel_rfl) hn h
/-- glazier/glazierref29.meet -/
def c_ref29_meet : C := .seq (.reg false [
  ⟨(some 2), none, .box true (.t 0), none⟩,
  ⟨(some 3), none, .box true (.t 1), none⟩,
  ⟨(some 4), none, .mv false (.c (.bool false)), none⟩] (some [2, 3])) (
.seq (.reg false [
  ⟨(some 5), none, .ld (some 4) (.t 2), none⟩,
  ⟨(some 6), none, .call false 66 [(.t 5)], none⟩,
  ⟨(some 7), none, .mv false (.t 6), none⟩,
  ⟨(some 8), some (7, true), .ld (some 4) (.t 3), none⟩,
  ⟨(some 9), some (7, true), .call false 66 [(.t 8)], none⟩,
  ⟨(some 10), none, .pick (.t 7) (.t 9) (.c (.bool false)), none⟩,
  ⟨(some 11), none, .mv false (.t 10), none⟩,
  ⟨(some 12), some (11, true), .fld 0 (.t 2), none⟩,
  ⟨(some 13), some (11, true), .ld none (.t 12), none⟩,
  ⟨(some 14), some (11, true), .fld 0 (.t 3), none⟩,
  ⟨(some 15), some (11, true), .ld none (.t 14), none⟩,
  ⟨(some 16), some (11, true), .fld 2 (.t 3), none⟩,
  ⟨(some 17), some (11, true), .ld none (.t 16), none⟩,
  ⟨(some 18), some (11, true), .bin .add .i64 (.t 15) (.t 17), none⟩,
  ⟨(some 19), some (11, true), .bin .lss .i64 (.t 13) (.t 18), none⟩,
  ⟨(some 20), none, .pick (.t 11) (.t 19) (.c (.bool false)), none⟩,
  ⟨(some 21), none, .mv false (.t 20), none⟩,
  ⟨(some 22), some (21, true), .fld 0 (.t 3), none⟩,
  ⟨(some 23), some (21, true), .ld none (.t 22), none⟩,
  ⟨(some 24), some (21, true), .fld 0 (.t 2), none⟩,
  ⟨(some 25), some (21, true), .ld none (.t 24), none⟩,
  ⟨(some 26), some (21, true), .fld 2 (.t 2), none⟩,
  ⟨(some 27), some (21, true), .ld none (.t 26), none⟩,
  ⟨(some 28), some (21, true), .bin .add .i64 (.t 25) (.t 27), none⟩,
  ⟨(some 29), some (21, true), .bin .lss .i64 (.t 23) (.t 28), none⟩,
  ⟨(some 30), none, .pick (.t 21) (.t 29) (.c (.bool false)), none⟩,
  ⟨(some 31), none, .mv false (.t 30), none⟩,
  ⟨(some 32), some (31, true), .fld 1 (.t 2), none⟩,
  ⟨(some 33), some (31, true), .ld none (.t 32), none⟩,
  ⟨(some 34), some (31, true), .fld 1 (.t 3), none⟩,
  ⟨(some 35), some (31, true), .ld none (.t 34), none⟩,
  ⟨(some 36), some (31, true), .fld 3 (.t 3), none⟩,
  ⟨(some 37), some (31, true), .ld none (.t 36), none⟩,
  ⟨(some 38), some (31, true), .bin .add .i64 (.t 35) (.t 37), none⟩,
  ⟨(some 39), some (31, true), .bin .lss .i64 (.t 33) (.t 38), none⟩,
  ⟨(some 40), none, .pick (.t 31) (.t 39) (.c (.bool false)), none⟩,
  ⟨(some 41), none, .mv false (.t 40), none⟩,
  ⟨(some 42), some (41, true), .fld 1 (.t 3), none⟩,
  ⟨(some 43), some (41, true), .ld none (.t 42), none⟩,
  ⟨(some 44), some (41, true), .fld 1 (.t 2), none⟩,
  ⟨(some 45), some (41, true), .ld none (.t 44), none⟩,
  ⟨(some 46), some (41, true), .fld 3 (.t 2), none⟩,
  ⟨(some 47), some (41, true), .ld none (.t 46), none⟩,
  ⟨(some 48), some (41, true), .bin .add .i64 (.t 45) (.t 47), none⟩,
  ⟨(some 49), some (41, true), .bin .lss .i64 (.t 43) (.t 48), none⟩,
  ⟨(some 50), none, .pick (.t 41) (.t 49) (.c (.bool false)), none⟩,
  ⟨(some 4), none, .mv false (.t 50), none⟩] (some [4])) (
.ret))
set_option maxRecDepth 1000000 in
theorem comp_ref29_meet : (Try.f46.body.bind fun code => compC Try.prog Try.f46.ntmps code c_ref29_meet) = some c_ref29_meet.bare := by kernel_rfl
def r_ref29_meet : List R := [.t 4]
theorem spo_ref29_meet {ds : List D} {d : D} (hn : Nat.ble ds.length 51 = true) (h : run TSpC gtab 0 c_ref29_meet (retK r_ref29_meet (· = d)) ⟨env0 0 ds, []⟩) : TSp 46 ds d := Sp_of mixed c_ref29_meet r_ref29_meet (fn := Try.f46) (by kernel_rfl) (by kernel_rfl) comp_ref29_meet (by kernel_rfl) hn h
theorem spm_ref29_meet {ds : List D} {d : D} {bx bx' : List Ent} (hn : Nat.ble ds.length 51 = true) (h : run TSpC gtab (sizeE bx) c_ref29_meet (retG r_ref29_meet (fun d1 bx1 => Rt (sizeE bx) bx1 d1 d bx')) ⟨env0 0 ds, bx⟩) : TSpM 46 ds bx d bx' := SpM_of mixed c_ref29_meet r_ref29_meet (fn := Try.f46) (by kernel_rfl) (by kernel_rfl) comp_ref29_meet (by kernel_rfl) hn h
/-- glazier/stack.Hides -/
def c_stack_Hides : C := .seq (.reg false [
  ⟨(some 4), none, .box true (.t 0), none⟩,
  ⟨(some 8), none, .mv false (.c (.bool false)), none⟩] (some [1, 2, 3, 4])) (
.seq (.seq (.reg false [
  ⟨(some 12), none, .ld (some 2) (.t 4), none⟩,
  ⟨(some 13), none, .mv false (.t 1), none⟩,
  ⟨(some 14), none, .mv false (.t 2), none⟩,
  ⟨(some 15), none, .call false 18 [(.t 12), (.t 13), (.t 14)], none⟩,
  ⟨(some 11), none, .mv false (.t 15), none⟩,
  ⟨(some 16), none, .ext (.t 11) 0, none⟩,
  ⟨(some 17), none, .ext (.t 11) 1, none⟩,
  ⟨(some 9), none, .mv false (.t 16), none⟩,
  ⟨(some 10), none, .mv false (.t 17), none⟩] (some [1, 2, 3, 9, 10])) (
.seq (.reg false [
  ⟨(some 18), none, .mv false (.t 10), none⟩,
  ⟨(some 19), none, .not (.t 18), none⟩,
  ⟨(some 20), none, .mv false (.t 19), none⟩,
  ⟨(some 21), some (20, false), .mv false (.t 9), none⟩,
  ⟨(some 22), some (20, false), .bin .neq .i64 (.t 21) (.c (.int .i64 1)), none⟩,
  ⟨(some 23), none, .pick (.t 20) (.c (.bool true)) (.t 22), none⟩] (some [1, 2, 3, 23])) (
.ite (.t 23) (
  .seq (.reg false [
    ⟨(some 8), none, .mv false (.c (.bool false)), none⟩] (some [8])) (
  .ret)) (
  .skip)))) (
.seq (.reg false [
  ⟨(some 24), none, .mv false (.t 3), none⟩,
  ⟨(some 25), none, .mv false (.t 1), none⟩,
  ⟨(some 26), none, .prm false false (.lkp 32 false) [(.t 24), (.t 25)], none⟩,
  ⟨(some 27), none, .mv false (.t 3), none⟩,
  ⟨(some 28), none, .mv false (.t 2), none⟩,
  ⟨(some 29), none, .prm false false (.lkp 32 false) [(.t 27), (.t 28)], none⟩,
  ⟨(some 30), none, .call false 45 [(.t 26), (.t 29)], none⟩,
  ⟨(some 31), none, .call false 44 [(.t 30)], none⟩,
  ⟨(some 32), none, .not (.t 31), none⟩,
  ⟨(some 8), none, .mv false (.t 32), none⟩] (some [8])) (
.ret)))
set_option maxRecDepth 1000000 in
theorem comp_stack_Hides : (Try.f19.body.bind fun code => compC Try.prog Try.f19.ntmps code c_stack_Hides) = some c_stack_Hides.bare := by kernel_rfl
def r_stack_Hides : List R := [.t 8]
theorem spo_stack_Hides {ds : List D} {d : D} (hn : Nat.ble ds.length 33 = true) (h : run TSpC gtab 0 c_stack_Hides (retK r_stack_Hides (· = d)) ⟨env0 0 ds, []⟩) : TSp 19 ds d := Sp_of mixed c_stack_Hides r_stack_Hides (fn := Try.f19) (by kernel_rfl) (by kernel_rfl) comp_stack_Hides (by kernel_rfl) hn h
theorem spm_stack_Hides {ds : List D} {d : D} {bx bx' : List Ent} (hn : Nat.ble ds.length 33 = true) (h : run TSpC gtab (sizeE bx) c_stack_Hides (retG r_stack_Hides (fun d1 bx1 => Rt (sizeE bx) bx1 d1 d bx')) ⟨env0 0 ds, bx⟩) : TSpM 19 ds bx d bx' := SpM_of mixed c_stack_Hides r_stack_Hides (fn := Try.f19) (by kernel_rfl) (by kernel_rfl) comp_stack_Hides (by kernel_rfl) hn h
/-- glazier/glazierref29.Hides -/
def c_ref29_Hides : C := .seq (.reg false [
  ⟨(some 6), none, .mv false (.c (.bool false)), none⟩] (some [0, 1, 2])) (
.seq (.reg true [
  ⟨(some 7), none, .mv false (.t 1), none⟩,
  ⟨(some 8), none, .mv false (.t 2), none⟩,
  ⟨(some 9), none, .bin .gtr .i64 (.t 7) (.t 8), none⟩,
  ⟨(some 10), none, .mv false (.t 9), none⟩,
  ⟨(some 11), some (10, true), .mv false (.t 0), none⟩,
  ⟨(some 12), some (10, true), .mv false (.t 1), none⟩,
  ⟨(some 13), some (10, true), .ixs 5 (.t 11) (.t 12), none⟩,
  ⟨(some 14), some (10, true), .fld 1 (.t 13), none⟩,
  ⟨(some 15), some (10, true), .ld (some 4) (.t 14), none⟩,
  ⟨(some 16), some (10, true), .mv false (.t 0), none⟩,
  ⟨(some 17), some (10, true), .mv false (.t 2), none⟩,
  ⟨(some 18), some (10, true), .ixs 5 (.t 16) (.t 17), none⟩,
  ⟨(some 19), some (10, true), .fld 1 (.t 18), none⟩,
  ⟨(some 20), some (10, true), .ld (some 4) (.t 19), none⟩,
  ⟨(some 21), some (10, true), .call false 46 [(.t 15), (.t 20)], none⟩,
  ⟨(some 22), none, .pick (.t 10) (.t 21) (.c (.bool false)), none⟩,
  ⟨(some 6), none, .mv false (.t 22), none⟩] (some [6])) (
.ret))
set_option maxRecDepth 1000000 in
theorem comp_ref29_Hides : (Try.f20.body.bind fun code => compC Try.prog Try.f20.ntmps code c_ref29_Hides) = some c_ref29_Hides.bare := by kernel_rfl
def r_ref29_Hides : List R := [.t 6]
theorem spo_ref29_Hides {ds : List D} {d : D} (hn : Nat.ble ds.length 23 = true) (h : run TSpC gtab 0 c_ref29_Hides (retK r_ref29_Hides (· = d)) ⟨env0 0 ds, []⟩) : TSp 20 ds d := Sp_of mixed c_ref29_Hides r_ref29_Hides (fn := Try.f20) (by kernel_rfl) (by kernel_rfl) comp_ref29_Hides (by kernel_rfl) hn h
theorem spm_ref29_Hides {ds : List D} {d : D} {bx bx' : List Ent} (hn : Nat.ble ds.length 23 = true) (h : run TSpC gtab (sizeE bx) c_ref29_Hides (retG r_ref29_Hides (fun d1 bx1 => Rt (sizeE bx) bx1 d1 d bx')) ⟨env0 0 ds, bx⟩) : TSpM 20 ds bx d bx' := SpM_of mixed c_ref29_Hides r_ref29_Hides (fn := Try.f20) (by kernel_rfl) (by kernel_rfl) comp_ref29_Hides (by kernel_rfl) hn h
/-- glazier/glazierref29.hidden -/
def c_ref29_hidden : C := .seq (.reg false [
  ⟨(some 6), none, .mv false (.c (.bool false)), none⟩] (some [0, 1, 2])) (
.seq (.seq (.reg false [
  ⟨(some 7), none, .mv false (.c (.int .i64 0)), none⟩] (some [0, 1, 2, 7])) (
.blk 0 (
  .loop (
    .seq (.seq (.reg false [
      ⟨(some 8), none, .mv false (.t 7), none⟩,
      ⟨(some 9), none, .mv false (.t 0), none⟩,
      ⟨(some 10), none, .len false (.t 9), none⟩,
      ⟨(some 11), none, .bin .lss .i64 (.t 8) (.t 10), none⟩] (some [0, 1, 2, 7, 11])) (
    .ite (.t 11) (
      .skip) (
      .exit 0))) (
    .seq (.blk 1 (
      .seq (.reg false [
        ⟨(some 14), none, .mv false (.t 2), none⟩,
        ⟨(some 15), none, .bin .lss .i64 (.t 14) (.c (.int .i64 0)), none⟩,
        ⟨(some 16), none, .mv false (.t 15), none⟩,
        ⟨(some 17), some (16, false), .mv false (.t 2), none⟩,
        ⟨(some 18), some (16, false), .mv false (.t 7), none⟩,
        ⟨(some 19), some (16, false), .bin .eql .i64 (.t 17) (.t 18), none⟩,
        ⟨(some 20), none, .pick (.t 16) (.c (.bool true)) (.t 19), none⟩,
        ⟨(some 21), none, .mv false (.t 20), none⟩,
        ⟨(some 22), some (21, true), .mv false (.t 0), none⟩,
        ⟨(some 23), some (21, true), .mv false (.t 7), none⟩,
        ⟨(some 24), some (21, true), .mv false (.t 1), none⟩,
        ⟨(some 25), some (21, true), .call false 20 [(.t 22), (.t 23), (.t 24)], none⟩,
        ⟨(some 26), none, .pick (.t 21) (.t 25) (.c (.bool false)), none⟩] (some [0, 1, 2, 7, 26])) (
      .ite (.t 26) (
        .seq (.reg false [
          ⟨(some 6), none, .mv false (.c (.bool true)), none⟩] (some [6])) (
        .ret)) (
        .skip)))) (
    .reg false [
      ⟨(some 12), none, .mv false (.t 7), none⟩,
      ⟨(some 13), none, .bin .add .i64 (.t 12) (.c (.int .i64 1)), none⟩,
      ⟨(some 7), none, .mv false (.t 13), none⟩] (some [0, 1, 2, 7]))))))) (
.seq (.reg false [
  ⟨(some 6), none, .mv false (.c (.bool false)), none⟩] (some [6])) (
.ret)))
set_option maxRecDepth 1000000 in
theorem comp_ref29_hidden : (Try.f41.body.bind fun code => compC Try.prog Try.f41.ntmps code c_ref29_hidden) = some c_ref29_hidden.bare := by kernel_rfl
def r_ref29_hidden : List R := [.t 6]
theorem spo_ref29_hidden {ds : List D} {d : D} (hn : Nat.ble ds.length 27 = true) (h : run TSpC gtab 0 c_ref29_hidden (retK r_ref29_hidden (· = d)) ⟨env0 0 ds, []⟩) : TSp 41 ds d := Sp_of mixed c_ref29_hidden r_ref29_hidden (fn := Try.f41) (by kernel_rfl) (by kernel_rfl) comp_ref29_hidden (by kernel_rfl) hn h
theorem spm_ref29_hidden {ds : List D} {d : D} {bx bx' : List Ent} (hn : Nat.ble ds.length 27 = true) (h : run TSpC gtab (sizeE bx) c_ref29_hidden (retG r_ref29_hidden (fun d1 bx1 => Rt (sizeE bx) bx1 d1 d bx')) ⟨env0 0 ds, bx⟩) : TSpM 41 ds bx d bx' := SpM_of mixed c_ref29_hidden r_ref29_hidden (fn := Try.f41) (by kernel_rfl) (by kernel_rfl) comp_ref29_hidden (by kernel_rfl) hn h
/-- glazier/glazierref29.hiding -/
def c_ref29_hiding : C := .seq (.reg false [
  ⟨(some 6), none, .mv false (.c (.bool false)), none⟩] (some [0, 1, 2])) (
.seq (.seq (.reg false [
  ⟨(some 7), none, .mv false (.c (.int .i64 0)), none⟩] (some [0, 1, 2, 7])) (
.blk 0 (
  .loop (
    .seq (.seq (.reg false [
      ⟨(some 8), none, .mv false (.t 7), none⟩,
      ⟨(some 9), none, .mv false (.t 0), none⟩,
      ⟨(some 10), none, .len false (.t 9), none⟩,
      ⟨(some 11), none, .bin .lss .i64 (.t 8) (.t 10), none⟩] (some [0, 1, 2, 7, 11])) (
    .ite (.t 11) (
      .skip) (
      .exit 0))) (
    .seq (.blk 1 (
      .seq (.reg false [
        ⟨(some 14), none, .mv false (.t 2), none⟩,
        ⟨(some 15), none, .bin .lss .i64 (.t 14) (.c (.int .i64 0)), none⟩,
        ⟨(some 16), none, .mv false (.t 15), none⟩,
        ⟨(some 17), some (16, false), .mv false (.t 2), none⟩,
        ⟨(some 18), some (16, false), .mv false (.t 7), none⟩,
        ⟨(some 19), some (16, false), .bin .eql .i64 (.t 17) (.t 18), none⟩,
        ⟨(some 20), none, .pick (.t 16) (.c (.bool true)) (.t 19), none⟩,
        ⟨(some 21), none, .mv false (.t 20), none⟩,
        ⟨(some 22), some (21, true), .mv false (.t 0), none⟩,
        ⟨(some 23), some (21, true), .mv false (.t 1), none⟩,
        ⟨(some 24), some (21, true), .mv false (.t 7), none⟩,
        ⟨(some 25), some (21, true), .call false 20 [(.t 22), (.t 23), (.t 24)], none⟩,
        ⟨(some 26), none, .pick (.t 21) (.t 25) (.c (.bool false)), none⟩] (some [0, 1, 2, 7, 26])) (
      .ite (.t 26) (
        .seq (.reg false [
          ⟨(some 6), none, .mv false (.c (.bool true)), none⟩] (some [6])) (
        .ret)) (
        .skip)))) (
    .reg false [
      ⟨(some 12), none, .mv false (.t 7), none⟩,
      ⟨(some 13), none, .bin .add .i64 (.t 12) (.c (.int .i64 1)), none⟩,
      ⟨(some 7), none, .mv false (.t 13), none⟩] (some [0, 1, 2, 7]))))))) (
.seq (.reg false [
  ⟨(some 6), none, .mv false (.c (.bool false)), none⟩] (some [6])) (
.ret)))
set_option maxRecDepth 1000000 in
theorem comp_ref29_hiding : (Try.f42.body.bind fun code => compC Try.prog Try.f42.ntmps code c_ref29_hiding) = some c_ref29_hiding.bare := by kernel_rfl
def r_ref29_hiding : List R := [.t 6]
theorem spo_ref29_hiding {ds : List D} {d : D} (hn : Nat.ble ds.length 27 = true) (h : run TSpC gtab 0 c_ref29_hiding (retK r_ref29_hiding (· = d)) ⟨env0 0 ds, []⟩) : TSp 42 ds d := Sp_of mixed c_ref29_hiding r_ref29_hiding (fn := Try.f42) (by kernel_rfl) (by kernel_rfl) comp_ref29_hiding (by kernel_rfl) hn h
theorem spm_ref29_hiding {ds : List D} {d : D} {bx bx' : List Ent} (hn : Nat.ble ds.length 27 = true) (h : run TSpC gtab (sizeE bx) c_ref29_hiding (retG r_ref29_hiding (fun d1 bx1 => Rt (sizeE bx) bx1 d1 d bx')) ⟨env0 0 ds, bx⟩) : TSpM 42 ds bx d bx' := SpM_of mixed c_ref29_hiding r_ref29_hiding (fn := Try.f42) (by kernel_rfl) (by kernel_rfl) comp_ref29_hiding (by kernel_rfl) hn h
/-- glazier/glazierref29.Place -/
def c_ref29_Place : C := .seq (.reg false [
  ⟨(some 4), none, .mv false (.c (.int .i64 0)), none⟩] (some [0, 1])) (
.seq (.seq (.reg false [
  ⟨(some 5), none, .mv false (.c (.int .i64 0)), none⟩] (some [0, 1, 5])) (
.blk 0 (
  .loop (
    .seq (.seq (.reg false [
      ⟨(some 6), none, .mv false (.t 5), none⟩,
      ⟨(some 7), none, .mv false (.t 0), none⟩,
      ⟨(some 8), none, .len false (.t 7), none⟩,
      ⟨(some 9), none, .bin .lss .i64 (.t 6) (.t 8), none⟩] (some [0, 1, 5, 9])) (
    .ite (.t 9) (
      .skip) (
      .exit 0))) (
    .seq (.blk 1 (
      .seq (.reg false [
        ⟨(some 12), none, .mv false (.t 0), none⟩,
        ⟨(some 13), none, .mv false (.t 5), none⟩,
        ⟨(some 14), none, .ixs 5 (.t 12) (.t 13), none⟩,
        ⟨(some 15), none, .fld 0 (.t 14), none⟩,
        ⟨(some 16), none, .ld none (.t 15), none⟩,
        ⟨(some 17), none, .mv false (.t 1), none⟩,
        ⟨(some 18), none, .bin .eql .i64 (.t 16) (.t 17), none⟩] (some [0, 1, 5, 18])) (
      .ite (.t 18) (
        .seq (.reg false [
          ⟨(some 19), none, .mv false (.t 5), none⟩,
          ⟨(some 4), none, .mv false (.t 19), none⟩] (some [4])) (
        .ret)) (
        .skip)))) (
    .reg false [
      ⟨(some 10), none, .mv false (.t 5), none⟩,
      ⟨(some 11), none, .bin .add .i64 (.t 10) (.c (.int .i64 1)), none⟩,
      ⟨(some 5), none, .mv false (.t 11), none⟩] (some [0, 1, 5]))))))) (
.seq (.reg false [
  ⟨(some 4), none, .mv false (.c (.int .i64 (-1))), none⟩] (some [4])) (
.ret)))
set_option maxRecDepth 1000000 in
theorem comp_ref29_Place : (Try.f13.body.bind fun code => compC Try.prog Try.f13.ntmps code c_ref29_Place) = some c_ref29_Place.bare := by kernel_rfl
def r_ref29_Place : List R := [.t 4]
theorem spo_ref29_Place {ds : List D} {d : D} (hn : Nat.ble ds.length 20 = true) (h : run TSpC gtab 0 c_ref29_Place (retK r_ref29_Place (· = d)) ⟨env0 0 ds, []⟩) : TSp 13 ds d := Sp_of mixed c_ref29_Place r_ref29_Place (fn := Try.f13) (by kernel_rfl) (by kernel_rfl) comp_ref29_Place (by kernel_rfl) hn h
theorem spm_ref29_Place {ds : List D} {d : D} {bx bx' : List Ent} (hn : Nat.ble ds.length 20 = true) (h : run TSpC gtab (sizeE bx) c_ref29_Place (retG r_ref29_Place (fun d1 bx1 => Rt (sizeE bx) bx1 d1 d bx')) ⟨env0 0 ds, bx⟩) : TSpM 13 ds bx d bx' := SpM_of mixed c_ref29_Place r_ref29_Place (fn := Try.f13) (by kernel_rfl) (by kernel_rfl) comp_ref29_Place (by kernel_rfl) hn h
/-- glazier/glazierref29.Same -/
def c_ref29_Same : C := .seq (.reg false [
  ⟨(some 4), none, .mv false (.c (.bool false)), none⟩] (some [0, 1])) (
.seq (.seq (.reg false [
  ⟨(some 6), none, .mv false (.t 0), none⟩,
  ⟨(some 7), none, .len false (.t 6), none⟩,
  ⟨(some 8), none, .mv false (.t 1), none⟩,
  ⟨(some 9), none, .len false (.t 8), none⟩,
  ⟨(some 10), none, .bin .neq .i64 (.t 7) (.t 9), none⟩] (some [0, 1, 10])) (
.ite (.t 10) (
  .seq (.reg false [
    ⟨(some 4), none, .mv false (.c (.bool false)), none⟩] (some [4])) (
  .ret)) (
  .skip))) (
.seq (.seq (.reg false [
  ⟨(some 5), none, .mv false (.c (.int .i64 0)), none⟩] (some [0, 1, 5])) (
.blk 0 (
  .loop (
    .seq (.seq (.reg false [
      ⟨(some 11), none, .mv false (.t 5), none⟩,
      ⟨(some 12), none, .mv false (.t 0), none⟩,
      ⟨(some 13), none, .len false (.t 12), none⟩,
      ⟨(some 14), none, .bin .lss .i64 (.t 11) (.t 13), none⟩] (some [0, 1, 5, 14])) (
    .ite (.t 14) (
      .skip) (
      .exit 0))) (
    .seq (.blk 1 (
      .seq (.reg true [
        ⟨(some 17), none, .mv false (.t 0), none⟩,
        ⟨(some 18), none, .mv false (.t 5), none⟩,
        ⟨(some 19), none, .ixs 5 (.t 17) (.t 18), none⟩,
        ⟨(some 20), none, .fld 0 (.t 19), none⟩,
        ⟨(some 21), none, .ld none (.t 20), none⟩,
        ⟨(some 22), none, .mv false (.t 1), none⟩,
        ⟨(some 23), none, .mv false (.t 5), none⟩,
        ⟨(some 24), none, .ixs 5 (.t 22) (.t 23), none⟩,
        ⟨(some 25), none, .fld 0 (.t 24), none⟩,
        ⟨(some 26), none, .ld none (.t 25), none⟩,
        ⟨(some 27), none, .bin .neq .i64 (.t 21) (.t 26), none⟩] (some [0, 1, 5, 27])) (
      .ite (.t 27) (
        .seq (.reg false [
          ⟨(some 4), none, .mv false (.c (.bool false)), none⟩] (some [4])) (
        .ret)) (
        .skip)))) (
    .reg false [
      ⟨(some 15), none, .mv false (.t 5), none⟩,
      ⟨(some 16), none, .bin .add .i64 (.t 15) (.c (.int .i64 1)), none⟩,
      ⟨(some 5), none, .mv false (.t 16), none⟩] (some [0, 1, 5]))))))) (
.seq (.reg false [
  ⟨(some 4), none, .mv false (.c (.bool true)), none⟩] (some [4])) (
.ret))))
set_option maxRecDepth 1000000 in
theorem comp_ref29_Same : (Try.f14.body.bind fun code => compC Try.prog Try.f14.ntmps code c_ref29_Same) = some c_ref29_Same.bare := by kernel_rfl
def r_ref29_Same : List R := [.t 4]
theorem spo_ref29_Same {ds : List D} {d : D} (hn : Nat.ble ds.length 28 = true) (h : run TSpC gtab 0 c_ref29_Same (retK r_ref29_Same (· = d)) ⟨env0 0 ds, []⟩) : TSp 14 ds d := Sp_of mixed c_ref29_Same r_ref29_Same (fn := Try.f14) (by kernel_rfl) (by kernel_rfl) comp_ref29_Same (by kernel_rfl) hn h
theorem spm_ref29_Same {ds : List D} {d : D} {bx bx' : List Ent} (hn : Nat.ble ds.length 28 = true) (h : run TSpC gtab (sizeE bx) c_ref29_Same (retG r_ref29_Same (fun d1 bx1 => Rt (sizeE bx) bx1 d1 d bx')) ⟨env0 0 ds, bx⟩) : TSpM 14 ds bx d bx' := SpM_of mixed c_ref29_Same r_ref29_Same (fn := Try.f14) (by kernel_rfl) (by kernel_rfl) comp_ref29_Same (by kernel_rfl) hn h
/-- glazier/glazierlaw29.kids -/
def c_law29_kids : C := .seq (.reg false [
  ⟨(some 1), none, .box true (.t 0), none⟩,
  ⟨(some 2), none, .nilS 63 5, none⟩] (some [1])) (
.seq (.reg false [
  ⟨(some 3), none, .nilS 63 5, none⟩] (some [1, 3])) (
.seq (.reg false [
  ⟨(some 6), none, .ld (some 2) (.t 1), none⟩,
  ⟨(some 7), none, .call false 27 [(.t 6), (.c (.int .u32 1))], none⟩,
  ⟨(some 4), none, .mv false (.t 7), none⟩] (some [3, 4])) (
.seq (.seq (.reg false [
  ⟨(some 5), none, .mv false (.c (.int .i64 0)), none⟩] (some [3, 4, 5])) (
.blk 0 (
  .loop (
    .seq (.seq (.reg false [
      ⟨(some 8), none, .mv false (.t 5), none⟩,
      ⟨(some 9), none, .mv false (.t 4), none⟩,
      ⟨(some 10), none, .len false (.t 9), none⟩,
      ⟨(some 11), none, .bin .lss .i64 (.t 8) (.t 10), none⟩] (some [3, 4, 5, 11])) (
    .ite (.t 11) (
      .skip) (
      .exit 0))) (
    .seq (.blk 1 (
      .reg false [
        ⟨(some 14), none, .mv false (.t 3), none⟩,
        ⟨(some 15), none, .mv false (.t 4), none⟩,
        ⟨(some 16), none, .mv false (.t 5), none⟩,
        ⟨(some 17), none, .ixs 1 (.t 15) (.t 16), none⟩,
        ⟨(some 18), none, .ld none (.t 17), none⟩,
        ⟨(some 19), none, .conv .i64 (.t 18), none⟩,
        ⟨(some 20), none, .bin .sub .i64 (.t 19) (.c (.int .i64 1048576)), none⟩,
        ⟨(some 21), none, .bld [(.int .i64 0), (.int .i64 0), (.int .i64 0), (.int .i64 0), (.int .i64 0)] [(0, none, (.t 20))], none⟩,
        ⟨(some 22), none, .bsl none 63 5 (some 5) [(.t 21)], none⟩,
        ⟨(some 23), none, .app 63 5 40 (.t 14) (.t 22), none⟩,
        ⟨(some 3), none, .mv false (.t 23), none⟩] (some [3, 4, 5]))) (
    .reg false [
      ⟨(some 12), none, .mv false (.t 5), none⟩,
      ⟨(some 13), none, .bin .add .i64 (.t 12) (.c (.int .i64 1)), none⟩,
      ⟨(some 5), none, .mv false (.t 13), none⟩] (some [3, 4, 5]))))))) (
.seq (.reg false [
  ⟨(some 24), none, .mv false (.t 3), none⟩,
  ⟨(some 2), none, .mv false (.t 24), none⟩] (some [2])) (
.ret)))))
set_option maxRecDepth 1000000 in
theorem comp_law29_kids : (Try.f15.body.bind fun code => compC Try.prog Try.f15.ntmps code c_law29_kids) = some c_law29_kids.bare := by kernel_rfl
def r_law29_kids : List R := [.t 2]
theorem spo_law29_kids {ds : List D} {d : D} (hn : Nat.ble ds.length 25 = true) (h : run TSpC gtab 0 c_law29_kids (retK r_law29_kids (· = d)) ⟨env0 0 ds, []⟩) : TSp 15 ds d := Sp_of mixed c_law29_kids r_law29_kids (fn := Try.f15) (by kernel_rfl) (by kernel_rfl) comp_law29_kids (by kernel_rfl) hn h
theorem spm_law29_kids {ds : List D} {d : D} {bx bx' : List Ent} (hn : Nat.ble ds.length 25 = true) (h : run TSpC gtab (sizeE bx) c_law29_kids (retG r_law29_kids (fun d1 bx1 => Rt (sizeE bx) bx1 d1 d bx')) ⟨env0 0 ds, bx⟩) : TSpM 15 ds bx d bx' := SpM_of mixed c_law29_kids r_law29_kids (fn := Try.f15) (by kernel_rfl) (by kernel_rfl) comp_law29_kids (by kernel_rfl) hn h
/-- glazier/stack.Restack$2 -/
def c_stack_Restack_2 : C := .seq (.reg false [
  ⟨(some 5), none, .mv false (.c (.bool false)), none⟩] (some [0, 1, 2, 3])) (
.seq (.seq (.reg false [
  ⟨(some 6), none, .fld 0 (.t 1), none⟩,
  ⟨(some 7), none, .ld none (.t 6), none⟩,
  ⟨(some 8), none, .not (.t 7), none⟩] (some [0, 2, 3, 8])) (
.ite (.t 8) (
  .seq (.reg false [
    ⟨(some 9), none, .mv false (.t 0), none⟩,
    ⟨(some 10), none, .ld none (.t 2), none⟩,
    ⟨(some 11), none, .callv false (.t 9) [(.t 10)], none⟩,
    ⟨(some 5), none, .mv false (.t 11), none⟩] (some [5])) (
  .ret)) (
  .skip))) (
.seq (.reg false [
  ⟨(some 12), none, .ld none (.t 3), none⟩,
  ⟨(some 13), none, .mv false (.t 0), none⟩,
  ⟨(some 14), none, .call false 33 [(.t 12), (.t 13)], none⟩,
  ⟨(some 5), none, .mv false (.t 14), none⟩] (some [5])) (
.ret)))
set_option maxRecDepth 1000000 in
theorem comp_stack_Restack_2 : (Try.f32.body.bind fun code => compC Try.prog Try.f32.ntmps code c_stack_Restack_2) = some c_stack_Restack_2.bare := by kernel_rfl
def r_stack_Restack_2 : List R := [.t 5]
theorem spo_stack_Restack_2 {ds : List D} {d : D} (hn : Nat.ble ds.length 15 = true) (h : run TSpC gtab 0 c_stack_Restack_2 (retK r_stack_Restack_2 (· = d)) ⟨env0 0 ds, []⟩) : TSp 32 ds d := Sp_of mixed c_stack_Restack_2 r_stack_Restack_2 (fn := Try.f32) (by kernel_rfl) (by kernel_rfl) comp_stack_Restack_2 (by kernel_rfl) hn h
theorem spm_stack_Restack_2 {ds : List D} {d : D} {bx bx' : List Ent} (hn : Nat.ble ds.length 15 = true) (h : run TSpC gtab (sizeE bx) c_stack_Restack_2 (retG r_stack_Restack_2 (fun d1 bx1 => Rt (sizeE bx) bx1 d1 d bx')) ⟨env0 0 ds, bx⟩) : TSpM 32 ds bx d bx' := SpM_of mixed c_stack_Restack_2 r_stack_Restack_2 (fn := Try.f32) (by kernel_rfl) (by kernel_rfl) comp_stack_Restack_2 (by kernel_rfl) hn h
/-- glazier/stack.Restack$3 -/
def c_stack_Restack_3 : C := .seq (.reg false [
  ⟨(some 4), none, .mv false (.c (.bool false)), none⟩] (some [0, 1, 2, 3])) (
.seq (.reg false [
  ⟨(some 5), none, .ld none (.t 0), none⟩,
  ⟨(some 6), none, .clo 35 [(.t 1), (.t 2), (.t 3)], none⟩,
  ⟨(some 7), none, .callv false (.t 5) [(.t 6)], none⟩,
  ⟨(some 4), none, .mv false (.t 7), none⟩] (some [4])) (
.ret))
set_option maxRecDepth 1000000 in
theorem comp_stack_Restack_3 : (Try.f34.body.bind fun code => compC Try.prog Try.f34.ntmps code c_stack_Restack_3) = some c_stack_Restack_3.bare := by kernel_rfl
def r_stack_Restack_3 : List R := [.t 4]
theorem spo_stack_Restack_3 {ds : List D} {d : D} (hn : Nat.ble ds.length 8 = true) (h : run TSpC gtab 0 c_stack_Restack_3 (retK r_stack_Restack_3 (· = d)) ⟨env0 0 ds, []⟩) : TSp 34 ds d := Sp_of mixed c_stack_Restack_3 r_stack_Restack_3 (fn := Try.f34) (by kernel_rfl) (by kernel_rfl) comp_stack_Restack_3 (by kernel_rfl) hn h
theorem spm_stack_Restack_3 {ds : List D} {d : D} {bx bx' : List Ent} (hn : Nat.ble ds.length 8 = true) (h : run TSpC gtab (sizeE bx) c_stack_Restack_3 (retG r_stack_Restack_3 (fun d1 bx1 => Rt (sizeE bx) bx1 d1 d bx')) ⟨env0 0 ds, bx⟩) : TSpM 34 ds bx d bx' := SpM_of mixed c_stack_Restack_3 r_stack_Restack_3 (fn := Try.f34) (by kernel_rfl) (by kernel_rfl) comp_stack_Restack_3 (by kernel_rfl) hn h
/-- glazier/stack.Restack$3$1 -/
def c_stack_Restack_3_1 : C := .seq (.reg false [
  ⟨(some 5), none, .mv false (.c (.bool false)), none⟩] (some [0, 1, 2, 3])) (
.seq (.reg false [
  ⟨(some 6), none, .ld (some 2) (.t 1), none⟩,
  ⟨(some 7), none, .mv false (.t 0), none⟩,
  ⟨(some 8), none, .ld none (.t 2), none⟩,
  ⟨(some 9), none, .ld none (.t 3), none⟩,
  ⟨(some 10), none, .call false 19 [(.t 6), (.t 7), (.t 8), (.t 9)], none⟩,
  ⟨(some 5), none, .mv false (.t 10), none⟩] (some [5])) (
.ret))
set_option maxRecDepth 1000000 in
theorem comp_stack_Restack_3_1 : (Try.f35.body.bind fun code => compC Try.prog Try.f35.ntmps code c_stack_Restack_3_1) = some c_stack_Restack_3_1.bare := by kernel_rfl
def r_stack_Restack_3_1 : List R := [.t 5]
theorem spo_stack_Restack_3_1 {ds : List D} {d : D} (hn : Nat.ble ds.length 11 = true) (h : run TSpC gtab 0 c_stack_Restack_3_1 (retK r_stack_Restack_3_1 (· = d)) ⟨env0 0 ds, []⟩) : TSp 35 ds d := Sp_of mixed c_stack_Restack_3_1 r_stack_Restack_3_1 (fn := Try.f35) (by kernel_rfl) (by kernel_rfl) comp_stack_Restack_3_1 (by kernel_rfl) hn h
theorem spm_stack_Restack_3_1 {ds : List D} {d : D} {bx bx' : List Ent} (hn : Nat.ble ds.length 11 = true) (h : run TSpC gtab (sizeE bx) c_stack_Restack_3_1 (retG r_stack_Restack_3_1 (fun d1 bx1 => Rt (sizeE bx) bx1 d1 d bx')) ⟨env0 0 ds, bx⟩) : TSpM 35 ds bx d bx' := SpM_of mixed c_stack_Restack_3_1 r_stack_Restack_3_1 (fn := Try.f35) (by kernel_rfl) (by kernel_rfl) comp_stack_Restack_3_1 (by kernel_rfl) hn h
/-- glazier/stack.Restack$4 -/
def c_stack_Restack_4 : C := .seq (.reg false [
  ⟨(some 4), none, .mv false (.c (.bool false)), none⟩] (some [0, 1, 2, 3])) (
.seq (.reg false [
  ⟨(some 5), none, .ld none (.t 0), none⟩,
  ⟨(some 6), none, .clo 37 [(.t 1), (.t 2), (.t 3)], none⟩,
  ⟨(some 7), none, .callv false (.t 5) [(.t 6)], none⟩,
  ⟨(some 4), none, .mv false (.t 7), none⟩] (some [4])) (
.ret))
set_option maxRecDepth 1000000 in
theorem comp_stack_Restack_4 : (Try.f36.body.bind fun code => compC Try.prog Try.f36.ntmps code c_stack_Restack_4) = some c_stack_Restack_4.bare := by kernel_rfl
def r_stack_Restack_4 : List R := [.t 4]
theorem spo_stack_Restack_4 {ds : List D} {d : D} (hn : Nat.ble ds.length 8 = true) (h : run TSpC gtab 0 c_stack_Restack_4 (retK r_stack_Restack_4 (· = d)) ⟨env0 0 ds, []⟩) : TSp 36 ds d := Sp_of mixed c_stack_Restack_4 r_stack_Restack_4 (fn := Try.f36) (by kernel_rfl) (by kernel_rfl) comp_stack_Restack_4 (by kernel_rfl) hn h
theorem spm_stack_Restack_4 {ds : List D} {d : D} {bx bx' : List Ent} (hn : Nat.ble ds.length 8 = true) (h : run TSpC gtab (sizeE bx) c_stack_Restack_4 (retG r_stack_Restack_4 (fun d1 bx1 => Rt (sizeE bx) bx1 d1 d bx')) ⟨env0 0 ds, bx⟩) : TSpM 36 ds bx d bx' := SpM_of mixed c_stack_Restack_4 r_stack_Restack_4 (fn := Try.f36) (by kernel_rfl) (by kernel_rfl) comp_stack_Restack_4 (by kernel_rfl) hn h
/-- glazier/stack.Restack$4$1 -/
def c_stack_Restack_4_1 : C := .seq (.reg false [
  ⟨(some 5), none, .mv false (.c (.bool false)), none⟩] (some [0, 1, 2, 3])) (
.seq (.reg false [
  ⟨(some 6), none, .ld (some 2) (.t 1), none⟩,
  ⟨(some 7), none, .ld none (.t 2), none⟩,
  ⟨(some 8), none, .mv false (.t 0), none⟩,
  ⟨(some 9), none, .ld none (.t 3), none⟩,
  ⟨(some 10), none, .call false 19 [(.t 6), (.t 7), (.t 8), (.t 9)], none⟩,
  ⟨(some 5), none, .mv false (.t 10), none⟩] (some [5])) (
.ret))
set_option maxRecDepth 1000000 in
theorem comp_stack_Restack_4_1 : (Try.f37.body.bind fun code => compC Try.prog Try.f37.ntmps code c_stack_Restack_4_1) = some c_stack_Restack_4_1.bare := by kernel_rfl
def r_stack_Restack_4_1 : List R := [.t 5]
theorem spo_stack_Restack_4_1 {ds : List D} {d : D} (hn : Nat.ble ds.length 11 = true) (h : run TSpC gtab 0 c_stack_Restack_4_1 (retK r_stack_Restack_4_1 (· = d)) ⟨env0 0 ds, []⟩) : TSp 37 ds d := Sp_of mixed c_stack_Restack_4_1 r_stack_Restack_4_1 (fn := Try.f37) (by kernel_rfl) (by kernel_rfl) comp_stack_Restack_4_1 (by kernel_rfl) hn h
theorem spm_stack_Restack_4_1 {ds : List D} {d : D} {bx bx' : List Ent} (hn : Nat.ble ds.length 11 = true) (h : run TSpC gtab (sizeE bx) c_stack_Restack_4_1 (retG r_stack_Restack_4_1 (fun d1 bx1 => Rt (sizeE bx) bx1 d1 d bx')) ⟨env0 0 ds, bx⟩) : TSpM 37 ds bx d bx' := SpM_of mixed c_stack_Restack_4_1 r_stack_Restack_4_1 (fn := Try.f37) (by kernel_rfl) (by kernel_rfl) comp_stack_Restack_4_1 (by kernel_rfl) hn h
/-- glazier/stack.ways -/
def c_stack_ways : C := .seq (.reg false [
  ⟨(some 0), none, .alloc [.nil, .nil, .nil, .nil, .nil], none⟩] (some [0])) (
.seq (.reg false [
  ⟨(some 1), none, .alloc [.nil], none⟩,
  ⟨none, none, .st none (.t 1) (.c (.fn 56 [])), none⟩] (some [0, 1])) (
.seq (.reg false [
  ⟨(some 2), none, .alloc [.nil], none⟩,
  ⟨none, none, .st none (.t 2) (.c (.fn 57 [])), none⟩] (some [0, 1, 2])) (
.seq (.reg false [
  ⟨(some 3), none, .bld [.nil] [(0, none, (.c (.fn 58 [])))], none⟩,
  ⟨(some 4), none, .bld [.nil] [(0, none, (.c (.fn 59 [])))], none⟩,
  ⟨(some 5), none, .ld none (.t 1), none⟩,
  ⟨(some 6), none, .bld [.nil] [(0, none, (.t 5))], none⟩,
  ⟨(some 7), none, .ld none (.t 2), none⟩,
  ⟨(some 8), none, .bld [.nil] [(0, none, (.t 7))], none⟩,
  ⟨(some 9), none, .clo 60 [(.t 1), (.t 2)], none⟩,
  ⟨(some 10), none, .bld [.nil] [(0, none, (.t 9))], none⟩,
  ⟨(some 11), none, .bld [.nil, .nil, .nil, .nil, .nil] [(0, (some 1), (.t 3)), (1, (some 1), (.t 4)), (2, (some 1), (.t 6)), (3, (some 1), (.t 8)), (4, (some 1), (.t 10))], none⟩,
  ⟨none, none, .st (some 5) (.t 0) (.t 11), none⟩] (some [0])) (
.ret))))
set_option maxRecDepth 1000000 in
theorem comp_stack_ways : (Try.f38.body.bind fun code => compC Try.prog Try.f38.ntmps code c_stack_ways) = some c_stack_ways.bare := by kernel_rfl
def r_stack_ways : List R := [.cell 0 (some 5)]
theorem spo_stack_ways {ds : List D} {d : D} (hn : Nat.ble ds.length 12 = true) (h : run TSpC gtab 0 c_stack_ways (retK r_stack_ways (· = d)) ⟨env0 0 ds, []⟩) : TSp 38 ds d := Sp_of mixed c_stack_ways r_stack_ways (fn := Try.f38) (by kernel_rfl) (by kernel_rfl) comp_stack_ways (by kernel_rfl) hn h
theorem spm_stack_ways {ds : List D} {d : D} {bx bx' : List Ent} (hn : Nat.ble ds.length 12 = true) (h : run TSpC gtab (sizeE bx) c_stack_ways (retG r_stack_ways (fun d1 bx1 => Rt (sizeE bx) bx1 d1 d bx')) ⟨env0 0 ds, bx⟩) : TSpM 38 ds bx d bx' := SpM_of mixed c_stack_ways r_stack_ways (fn := Try.f38) (by kernel_rfl) (by kernel_rfl) comp_stack_ways (by kernel_rfl) hn h
/-- glazier/stack.ways$1 -/
def c_stack_ways_1 : C := .seq (.reg false [
  ⟨(some 1), none, .box true (.t 0), none⟩,
  ⟨(some 2), none, .mv false (.c (.int .i64 0)), none⟩,
  ⟨(some 3), none, .mv false (.c (.bool false)), none⟩] (some [1])) (
.seq (.reg true [
  ⟨(some 4), none, .fld 1 (.t 1), none⟩,
  ⟨(some 5), none, .ld none (.t 4), none⟩,
  ⟨(some 6), none, .fld 3 (.t 1), none⟩,
  ⟨(some 7), none, .ld none (.t 6), none⟩,
  ⟨(some 8), none, .callv false (.t 7) [], none⟩,
  ⟨(some 2), none, .mv false (.t 5), none⟩,
  ⟨(some 3), none, .mv false (.t 8), none⟩] (some [2, 3])) (
.ret))
set_option maxRecDepth 1000000 in
theorem comp_stack_ways_1 : (Try.f56.body.bind fun code => compC Try.prog Try.f56.ntmps code c_stack_ways_1) = some c_stack_ways_1.bare := by kernel_rfl
def r_stack_ways_1 : List R := [.t 2, .t 3]
theorem spo_stack_ways_1 {ds : List D} {d : D} (hn : Nat.ble ds.length 9 = true) (h : run TSpC gtab 0 c_stack_ways_1 (retK r_stack_ways_1 (· = d)) ⟨env0 0 ds, []⟩) : TSp 56 ds d := Sp_of mixed c_stack_ways_1 r_stack_ways_1 (fn := Try.f56) (by kernel_rfl) (by kernel_rfl) comp_stack_ways_1 (by kernel_rfl) hn h
theorem spm_stack_ways_1 {ds : List D} {d : D} {bx bx' : List Ent} (hn : Nat.ble ds.length 9 = true) (h : run TSpC gtab (sizeE bx) c_stack_ways_1 (retG r_stack_ways_1 (fun d1 bx1 => Rt (sizeE bx) bx1 d1 d bx')) ⟨env0 0 ds, bx⟩) : TSpM 56 ds bx d bx' := SpM_of mixed c_stack_ways_1 r_stack_ways_1 (fn := Try.f56) (by kernel_rfl) (by kernel_rfl) comp_stack_ways_1 (by kernel_rfl) hn h
/-- glazier/stack.ways$2 -/
def c_stack_ways_2 : C := .seq (.reg false [
  ⟨(some 1), none, .box true (.t 0), none⟩,
  ⟨(some 2), none, .mv false (.c (.int .i64 0)), none⟩,
  ⟨(some 3), none, .mv false (.c (.bool false)), none⟩] (some [1])) (
.seq (.reg false [
  ⟨(some 4), none, .fld 4 (.t 1), none⟩,
  ⟨(some 5), none, .ld none (.t 4), none⟩,
  ⟨(some 6), none, .callv false (.t 5) [], none⟩,
  ⟨(some 2), none, .mv false (.c (.int .i64 0)), none⟩,
  ⟨(some 3), none, .mv false (.t 6), none⟩] (some [2, 3])) (
.ret))
set_option maxRecDepth 1000000 in
theorem comp_stack_ways_2 : (Try.f57.body.bind fun code => compC Try.prog Try.f57.ntmps code c_stack_ways_2) = some c_stack_ways_2.bare := by kernel_rfl
def r_stack_ways_2 : List R := [.t 2, .t 3]
theorem spo_stack_ways_2 {ds : List D} {d : D} (hn : Nat.ble ds.length 7 = true) (h : run TSpC gtab 0 c_stack_ways_2 (retK r_stack_ways_2 (· = d)) ⟨env0 0 ds, []⟩) : TSp 57 ds d := Sp_of mixed c_stack_ways_2 r_stack_ways_2 (fn := Try.f57) (by kernel_rfl) (by kernel_rfl) comp_stack_ways_2 (by kernel_rfl) hn h
theorem spm_stack_ways_2 {ds : List D} {d : D} {bx bx' : List Ent} (hn : Nat.ble ds.length 7 = true) (h : run TSpC gtab (sizeE bx) c_stack_ways_2 (retG r_stack_ways_2 (fun d1 bx1 => Rt (sizeE bx) bx1 d1 d bx')) ⟨env0 0 ds, bx⟩) : TSpM 57 ds bx d bx' := SpM_of mixed c_stack_ways_2 r_stack_ways_2 (fn := Try.f57) (by kernel_rfl) (by kernel_rfl) comp_stack_ways_2 (by kernel_rfl) hn h
/-- glazier/stack.ways$3 -/
def c_stack_ways_3 : C := .seq (.reg false [
  ⟨(some 1), none, .box true (.t 0), none⟩,
  ⟨(some 2), none, .mv false (.c (.int .i64 0)), none⟩,
  ⟨(some 3), none, .mv false (.c (.bool false)), none⟩] (some [1])) (
.seq (.seq (.reg false [
  ⟨(some 4), none, .fld 0 (.t 1), none⟩,
  ⟨(some 5), none, .ld none (.t 4), none⟩] (some [1, 5])) (
.ite (.t 5) (
  .seq (.reg false [
    ⟨(some 6), none, .fld 1 (.t 1), none⟩,
    ⟨(some 7), none, .ld none (.t 6), none⟩,
    ⟨(some 2), none, .mv false (.t 7), none⟩,
    ⟨(some 3), none, .mv false (.c (.bool true)), none⟩] (some [2, 3])) (
  .ret)) (
  .skip))) (
.seq (.reg false [
  ⟨(some 8), none, .fld 2 (.t 1), none⟩,
  ⟨(some 9), none, .ld none (.t 8), none⟩,
  ⟨(some 10), none, .bin .add .i64 (.t 9) (.c (.int .i64 1)), none⟩,
  ⟨(some 2), none, .mv false (.t 10), none⟩,
  ⟨(some 3), none, .mv false (.c (.bool true)), none⟩] (some [2, 3])) (
.ret)))
set_option maxRecDepth 1000000 in
theorem comp_stack_ways_3 : (Try.f58.body.bind fun code => compC Try.prog Try.f58.ntmps code c_stack_ways_3) = some c_stack_ways_3.bare := by kernel_rfl
def r_stack_ways_3 : List R := [.t 2, .t 3]
theorem spo_stack_ways_3 {ds : List D} {d : D} (hn : Nat.ble ds.length 11 = true) (h : run TSpC gtab 0 c_stack_ways_3 (retK r_stack_ways_3 (· = d)) ⟨env0 0 ds, []⟩) : TSp 58 ds d := Sp_of mixed c_stack_ways_3 r_stack_ways_3 (fn := Try.f58) (by kernel_rfl) (by kernel_rfl) comp_stack_ways_3 (by kernel_rfl) hn h
theorem spm_stack_ways_3 {ds : List D} {d : D} {bx bx' : List Ent} (hn : Nat.ble ds.length 11 = true) (h : run TSpC gtab (sizeE bx) c_stack_ways_3 (retG r_stack_ways_3 (fun d1 bx1 => Rt (sizeE bx) bx1 d1 d bx')) ⟨env0 0 ds, bx⟩) : TSpM 58 ds bx d bx' := SpM_of mixed c_stack_ways_3 r_stack_ways_3 (fn := Try.f58) (by kernel_rfl) (by kernel_rfl) comp_stack_ways_3 (by kernel_rfl) hn h
/-- glazier/stack.ways$4 -/
def c_stack_ways_4 : C := .seq (.reg false [
  ⟨(some 1), none, .box true (.t 0), none⟩,
  ⟨(some 2), none, .mv false (.c (.int .i64 0)), none⟩,
  ⟨(some 3), none, .mv false (.c (.bool false)), none⟩] (some [1])) (
.seq (.seq (.reg false [
  ⟨(some 4), none, .fld 0 (.t 1), none⟩,
  ⟨(some 5), none, .ld none (.t 4), none⟩] (some [1, 5])) (
.ite (.t 5) (
  .seq (.reg false [
    ⟨(some 2), none, .mv false (.c (.int .i64 0)), none⟩,
    ⟨(some 3), none, .mv false (.c (.bool true)), none⟩] (some [2, 3])) (
  .ret)) (
  .skip))) (
.seq (.reg false [
  ⟨(some 6), none, .fld 2 (.t 1), none⟩,
  ⟨(some 7), none, .ld none (.t 6), none⟩,
  ⟨(some 2), none, .mv false (.t 7), none⟩,
  ⟨(some 3), none, .mv false (.c (.bool true)), none⟩] (some [2, 3])) (
.ret)))
set_option maxRecDepth 1000000 in
theorem comp_stack_ways_4 : (Try.f59.body.bind fun code => compC Try.prog Try.f59.ntmps code c_stack_ways_4) = some c_stack_ways_4.bare := by kernel_rfl
def r_stack_ways_4 : List R := [.t 2, .t 3]
theorem spo_stack_ways_4 {ds : List D} {d : D} (hn : Nat.ble ds.length 8 = true) (h : run TSpC gtab 0 c_stack_ways_4 (retK r_stack_ways_4 (· = d)) ⟨env0 0 ds, []⟩) : TSp 59 ds d := Sp_of mixed c_stack_ways_4 r_stack_ways_4 (fn := Try.f59) (by kernel_rfl) (by kernel_rfl) comp_stack_ways_4 (by kernel_rfl) hn h
theorem spm_stack_ways_4 {ds : List D} {d : D} {bx bx' : List Ent} (hn : Nat.ble ds.length 8 = true) (h : run TSpC gtab (sizeE bx) c_stack_ways_4 (retG r_stack_ways_4 (fun d1 bx1 => Rt (sizeE bx) bx1 d1 d bx')) ⟨env0 0 ds, bx⟩) : TSpM 59 ds bx d bx' := SpM_of mixed c_stack_ways_4 r_stack_ways_4 (fn := Try.f59) (by kernel_rfl) (by kernel_rfl) comp_stack_ways_4 (by kernel_rfl) hn h
/-- glazier/stack.ways$5 -/
def c_stack_ways_5 : C := .seq (.reg false [
  ⟨(some 3), none, .box true (.t 0), none⟩,
  ⟨(some 4), none, .mv false (.c (.int .i64 0)), none⟩,
  ⟨(some 5), none, .mv false (.c (.bool false)), none⟩] (some [1, 2, 3])) (
.seq (.seq (.reg false [
  ⟨(some 9), none, .ld none (.t 1), none⟩,
  ⟨(some 10), none, .ld (some 5) (.t 3), none⟩,
  ⟨(some 11), none, .callv false (.t 9) [(.t 10)], none⟩,
  ⟨(some 8), none, .mv false (.t 11), none⟩,
  ⟨(some 12), none, .ext (.t 8) 0, none⟩,
  ⟨(some 13), none, .ext (.t 8) 1, none⟩,
  ⟨(some 6), none, .mv false (.t 12), none⟩,
  ⟨(some 7), none, .mv false (.t 13), none⟩] (some [2, 3, 6, 7])) (
.seq (.reg false [
  ⟨(some 14), none, .mv false (.t 7), none⟩] (some [2, 3, 6, 14])) (
.ite (.t 14) (
  .seq (.reg false [
    ⟨(some 15), none, .mv false (.t 6), none⟩,
    ⟨(some 4), none, .mv false (.t 15), none⟩,
    ⟨(some 5), none, .mv false (.c (.bool true)), none⟩] (some [4, 5])) (
  .ret)) (
  .skip)))) (
.seq (.reg false [
  ⟨(some 16), none, .ld none (.t 2), none⟩,
  ⟨(some 17), none, .ld (some 5) (.t 3), none⟩,
  ⟨(some 18), none, .callv false (.t 16) [(.t 17)], none⟩,
  ⟨(some 19), none, .ext (.t 18) 0, none⟩,
  ⟨(some 20), none, .ext (.t 18) 1, none⟩,
  ⟨(some 4), none, .mv false (.t 19), none⟩,
  ⟨(some 5), none, .mv false (.t 20), none⟩] (some [4, 5])) (
.ret)))
set_option maxRecDepth 1000000 in
theorem comp_stack_ways_5 : (Try.f60.body.bind fun code => compC Try.prog Try.f60.ntmps code c_stack_ways_5) = some c_stack_ways_5.bare := by kernel_rfl
def r_stack_ways_5 : List R := [.t 4, .t 5]
theorem spo_stack_ways_5 {ds : List D} {d : D} (hn : Nat.ble ds.length 21 = true) (h : run TSpC gtab 0 c_stack_ways_5 (retK r_stack_ways_5 (· = d)) ⟨env0 0 ds, []⟩) : TSp 60 ds d := Sp_of mixed c_stack_ways_5 r_stack_ways_5 (fn := Try.f60) (by kernel_rfl) (by kernel_rfl) comp_stack_ways_5 (by kernel_rfl) hn h
theorem spm_stack_ways_5 {ds : List D} {d : D} {bx bx' : List Ent} (hn : Nat.ble ds.length 21 = true) (h : run TSpC gtab (sizeE bx) c_stack_ways_5 (retG r_stack_ways_5 (fun d1 bx1 => Rt (sizeE bx) bx1 d1 d bx')) ⟨env0 0 ds, bx⟩) : TSpM 60 ds bx d bx' := SpM_of mixed c_stack_ways_5 r_stack_ways_5 (fn := Try.f60) (by kernel_rfl) (by kernel_rfl) comp_stack_ways_5 (by kernel_rfl) hn h
/-- glazier/stack.Restack -/
def c_stack_Restack : C := .seq (.reg false [
  ⟨(some 5), none, .box true (.t 0), none⟩,
  ⟨(some 6), none, .box false (.t 1), none⟩,
  ⟨(some 7), none, .box false (.t 2), none⟩,
  ⟨(some 9), none, .box false (.t 4), none⟩,
  ⟨(some 10), none, .alloc [(.mp [] []), (.mp [] [])], none⟩,
  ⟨(some 11), none, .mv false (.c (.bool false)), none⟩,
  ⟨(some 12), none, .mv false (.c (.int .i64 0)), none⟩] (some [3, 5, 6, 7, 9, 10])) (
.seq (.reg false [
  ⟨(some 23), none, .ld (some 2) (.t 5), none⟩,
  ⟨(some 24), none, .ld none (.t 6), none⟩,
  ⟨(some 25), none, .call false 26 [(.t 23), (.t 24)], none⟩,
  ⟨(some 22), none, .mv false (.t 25), none⟩,
  ⟨(some 26), none, .ext (.t 22) 0, none⟩,
  ⟨(some 27), none, .ext (.t 22) 1, none⟩,
  ⟨(some 13), none, .mv false (.t 26), none⟩,
  ⟨(some 14), none, .mv false (.t 27), none⟩] (some [3, 5, 6, 7, 9, 10, 13, 14])) (
.seq (.blk 0 (
  .seq (.reg false [
    ⟨(some 29), none, .ld none (.t 6), none⟩,
    ⟨(some 30), none, .bin .eql .u32 (.t 29) (.c (.int .u32 1)), none⟩,
    ⟨(some 28), none, .mv false (.t 30), none⟩] (some [3, 5, 6, 7, 9, 10, 13, 14, 28])) (
  .ite (.t 28) (
    .seq (.reg false [
      ⟨(some 31), none, .ld (some 2) (.t 5), none⟩,
      ⟨none, none, .st (some 2) (.t 10) (.t 31), none⟩,
      ⟨(some 11), none, .mv false (.c (.bool false)), none⟩,
      ⟨(some 12), none, .mv false (.c (.int .i64 23)), none⟩] (some [10, 11, 12])) (
    .ret)) (
    .seq (.reg false [
      ⟨(some 33), none, .mv false (.t 14), none⟩,
      ⟨(some 34), none, .not (.t 33), none⟩,
      ⟨(some 32), none, .mv false (.t 34), none⟩] (some [3, 5, 6, 7, 9, 10, 13, 32])) (
    .ite (.t 32) (
      .seq (.reg false [
        ⟨(some 35), none, .ld (some 2) (.t 5), none⟩,
        ⟨none, none, .st (some 2) (.t 10) (.t 35), none⟩,
        ⟨(some 11), none, .mv false (.c (.bool false)), none⟩,
        ⟨(some 12), none, .mv false (.c (.int .i64 6)), none⟩] (some [10, 11, 12])) (
      .ret)) (
      .seq (.reg false [
        ⟨(some 37), none, .mv false (.t 3), none⟩,
        ⟨(some 38), none, .bin .lss .i64 (.t 37) (.c (.int .i64 0)), none⟩,
        ⟨(some 39), none, .mv false (.t 38), none⟩,
        ⟨(some 40), some (39, false), .mv false (.t 3), none⟩,
        ⟨(some 41), some (39, false), .bin .gtr .i64 (.t 40) (.c (.int .i64 4)), none⟩,
        ⟨(some 42), none, .pick (.t 39) (.c (.bool true)) (.t 41), none⟩,
        ⟨(some 36), none, .mv false (.t 42), none⟩] (some [3, 5, 6, 7, 9, 10, 13, 36])) (
      .ite (.t 36) (
        .seq (.reg false [
          ⟨(some 43), none, .ld (some 2) (.t 5), none⟩,
          ⟨none, none, .st (some 2) (.t 10) (.t 43), none⟩,
          ⟨(some 11), none, .mv false (.c (.bool false)), none⟩,
          ⟨(some 12), none, .mv false (.c (.int .i64 10)), none⟩] (some [10, 11, 12])) (
        .ret)) (
        .skip)))))))) (
.seq (.reg false [
  ⟨(some 44), none, .ld (some 2) (.t 5), none⟩,
  ⟨(some 45), none, .mv false (.t 13), none⟩,
  ⟨(some 46), none, .call false 27 [(.t 44), (.t 45)], none⟩,
  ⟨(some 15), none, .mv false (.t 46), none⟩] (some [3, 5, 6, 7, 9, 10, 15])) (
.seq (.reg false [
  ⟨(some 47), none, .mv false (.t 15), none⟩,
  ⟨(some 48), none, .call true 29 [(.t 47)], none⟩,
  ⟨(some 49), none, .clo 30 [(.t 6)], none⟩,
  ⟨(some 50), none, .call true 28 [(.t 48), (.t 49)], none⟩,
  ⟨(some 16), none, .alloc [(.ls 1 [])], none⟩,
  ⟨none, none, .st none (.t 16) (.t 50), none⟩] (some [3, 5, 6, 7, 9, 10, 15, 16])) (
.seq (.reg true [
  ⟨(some 51), none, .ld none (.t 7), (some [2])⟩,
  ⟨(some 52), none, .bin .eql .u32 (.t 51) (.c (.int .u32 0)), none⟩,
  ⟨(some 53), none, .ld none (.t 16), (some [6])⟩,
  ⟨(some 54), none, .len false (.t 53), (some [6])⟩,
  ⟨(some 55), none, .ld none (.t 16), (some [6])⟩,
  ⟨(some 56), none, .ld none (.t 7), (some [2])⟩,
  ⟨(some 57), none, .callC 31 [(.t 55), (.t 56)], none⟩,
  ⟨(some 58), none, .bld [(.bool false), (.int .i64 0), (.int .i64 0), .nil, .nil] [(0, none, (.t 52)), (1, none, (.t 54)), (2, none, (.t 57))], none⟩,
  ⟨(some 17), none, .alloc [(.bool false), (.int .i64 0), (.int .i64 0), .nil, .nil], (some [7])⟩,
  ⟨none, none, .st (some 5) (.t 17) (.t 58), none⟩] (some [3, 5, 6, 7, 9, 10, 15, 16, 17])) (
.seq (.seq (.reg false [
  ⟨(some 59), none, .fld 0 (.t 17), none⟩,
  ⟨(some 60), none, .ld none (.t 59), none⟩,
  ⟨(some 61), none, .not (.t 60), none⟩,
  ⟨(some 62), none, .mv false (.t 61), none⟩,
  ⟨(some 63), some (62, true), .fld 2 (.t 17), none⟩,
  ⟨(some 64), some (62, true), .ld none (.t 63), none⟩,
  ⟨(some 65), some (62, true), .bin .lss .i64 (.t 64) (.c (.int .i64 0)), none⟩,
  ⟨(some 66), none, .pick (.t 62) (.t 65) (.c (.bool false)), none⟩] (some [3, 5, 6, 7, 9, 10, 15, 16, 17, 66])) (
.ite (.t 66) (
  .seq (.reg false [
    ⟨(some 67), none, .ld (some 2) (.t 5), none⟩,
    ⟨none, none, .st (some 2) (.t 10) (.t 67), none⟩,
    ⟨(some 11), none, .mv false (.c (.bool false)), none⟩,
    ⟨(some 12), none, .mv false (.c (.int .i64 14)), none⟩] (some [10, 11, 12])) (
  .ret)) (
  .skip))) (
.seq (.reg false [
  ⟨(some 68), none, .clo 32 [(.t 17), (.t 7), (.t 16)], none⟩,
  ⟨(some 18), none, .alloc [.nil], none⟩,
  ⟨none, none, .st none (.t 18) (.t 68), none⟩] (some [3, 5, 6, 9, 10, 15, 17, 18])) (
.seq (.reg false [
  ⟨(some 69), none, .clo 34 [(.t 18), (.t 5), (.t 6), (.t 9)], none⟩,
  ⟨(some 70), none, .fld 3 (.t 17), none⟩,
  ⟨none, none, .st none (.t 70) (.t 69), none⟩] (some [3, 5, 6, 9, 10, 15, 17, 18])) (
.seq (.reg false [
  ⟨(some 71), none, .clo 36 [(.t 18), (.t 5), (.t 6), (.t 9)], none⟩,
  ⟨(some 72), none, .fld 4 (.t 17), none⟩,
  ⟨none, none, .st none (.t 72) (.t 71), none⟩] (some [3, 5, 6, 10, 15, 17])) (
.seq (.reg true [
  ⟨(some 74), none, .callK [9, 10] 38 [], none⟩,
  ⟨(some 75), none, .mv false (.t 3), none⟩,
  ⟨(some 76), none, .ixv 5 1 (some 1) (.t 74) (.t 75), none⟩,
  ⟨(some 77), none, .part 0 none (.t 76), none⟩,
  ⟨(some 78), none, .ld (some 5) (.t 17), (some [7])⟩,
  ⟨(some 79), none, .callv false (.t 77) [(.t 78)], none⟩,
  ⟨(some 73), none, .mv false (.t 79), none⟩,
  ⟨(some 80), none, .ext (.t 73) 0, none⟩,
  ⟨(some 81), none, .ext (.t 73) 1, none⟩,
  ⟨(some 19), none, .mv false (.t 80), none⟩,
  ⟨(some 14), none, .mv false (.t 81), none⟩] (some [5, 6, 10, 14, 15, 19])) (
.seq (.seq (.reg true [
  ⟨(some 82), none, .mv false (.t 14), none⟩,
  ⟨(some 83), none, .not (.t 82), none⟩,
  ⟨(some 84), none, .mv false (.t 83), none⟩,
  ⟨(some 85), some (84, false), .mv false (.t 15), none⟩,
  ⟨(some 86), some (84, false), .mv false (.t 19), none⟩,
  ⟨(some 87), some (84, false), .ixs 1 (.t 85) (.t 86), none⟩,
  ⟨(some 88), some (84, false), .ld none (.t 87), none⟩,
  ⟨(some 89), some (84, false), .ld none (.t 6), none⟩,
  ⟨(some 90), some (84, false), .bin .eql .u32 (.t 88) (.t 89), none⟩,
  ⟨(some 91), none, .pick (.t 84) (.c (.bool true)) (.t 90), none⟩] (some [5, 6, 10, 19, 91])) (
.ite (.t 91) (
  .seq (.reg false [
    ⟨(some 92), none, .ld (some 2) (.t 5), none⟩,
    ⟨none, none, .st (some 2) (.t 10) (.t 92), none⟩,
    ⟨(some 11), none, .mv false (.c (.bool false)), none⟩,
    ⟨(some 12), none, .mv false (.c (.int .i64 0)), none⟩] (some [10, 11, 12])) (
  .ret)) (
  .skip))) (
.seq (.reg false [
  ⟨(some 94), none, .ld (some 2) (.t 5), none⟩,
  ⟨(some 95), none, .ld none (.t 6), none⟩,
  ⟨(some 96), none, .mv false (.t 19), none⟩,
  ⟨(some 97), none, .call false 39 [(.t 94), (.t 95), (.t 96)], none⟩,
  ⟨(some 93), none, .mv false (.t 97), none⟩,
  ⟨(some 98), none, .ext (.t 93) 0, none⟩,
  ⟨(some 99), none, .ext (.t 93) 1, none⟩,
  ⟨(some 20), none, .alloc [(.mp [] []), (.mp [] [])], none⟩,
  ⟨none, none, .st (some 2) (.t 20) (.t 98), none⟩,
  ⟨(some 21), none, .mv false (.t 99), none⟩] (some [5, 10, 20, 21])) (
.seq (.seq (.reg false [
  ⟨(some 100), none, .mv false (.t 21), none⟩,
  ⟨(some 101), none, .bin .neq .i64 (.t 100) (.c (.int .i64 0)), none⟩] (some [5, 10, 20, 21, 101])) (
.ite (.t 101) (
  .seq (.reg false [
    ⟨(some 102), none, .ld (some 2) (.t 5), none⟩,
    ⟨(some 103), none, .mv false (.t 21), none⟩,
    ⟨none, none, .st (some 2) (.t 10) (.t 102), none⟩,
    ⟨(some 11), none, .mv false (.c (.bool false)), none⟩,
    ⟨(some 12), none, .mv false (.t 103), none⟩] (some [10, 11, 12])) (
  .ret)) (
  .skip))) (
.seq (.reg false [
  ⟨(some 104), none, .ld (some 2) (.t 20), none⟩,
  ⟨none, none, .st (some 2) (.t 10) (.t 104), none⟩,
  ⟨(some 11), none, .mv false (.c (.bool true)), none⟩,
  ⟨(some 12), none, .mv false (.c (.int .i64 0)), none⟩] (some [10, 11, 12])) (
.ret)))))))))))))))
set_option maxRecDepth 1000000 in
theorem comp_stack_Restack : (Try.f12.body.bind fun code => compC Try.prog Try.f12.ntmps code c_stack_Restack) = some c_stack_Restack.bare := by kernel_rfl
def r_stack_Restack : List R := [.cell 10 (some 2), .t 11, .t 12]
theorem spo_stack_Restack {ds : List D} {d : D} (hn : Nat.ble ds.length 105 = true) (h : run TSpC gtab 0 c_stack_Restack (retK r_stack_Restack (· = d)) ⟨env0 0 ds, []⟩) : TSp 12 ds d := Sp_of mixed c_stack_Restack r_stack_Restack (fn := Try.f12) (by kernel_rfl) (by kernel_rfl) comp_stack_Restack (by kernel_rfl) hn h
theorem spm_stack_Restack {ds : List D} {d : D} {bx bx' : List Ent} (hn : Nat.ble ds.length 105 = true) (h : run TSpC gtab (sizeE bx) c_stack_Restack (retG r_stack_Restack (fun d1 bx1 => Rt (sizeE bx) bx1 d1 d bx')) ⟨env0 0 ds, bx⟩) : TSpM 12 ds bx d bx' := SpM_of mixed c_stack_Restack r_stack_Restack (fn := Try.f12) (by kernel_rfl) (by kernel_rfl) comp_stack_Restack (by kernel_rfl) hn h
/-- glazier/stack.Circulate$1 -/
def c_stack_Circulate_1 : C := .seq (.reg false [
  ⟨(some 4), none, .box false (.t 1), none⟩,
  ⟨(some 5), none, .mv false (.c (.int .u32 0)), none⟩] (some [0, 2, 4])) (
.seq (.seq (.reg false [
  ⟨(some 8), none, .mv false (.t 0), none⟩,
  ⟨(some 9), none, .len false (.t 8), none⟩,
  ⟨(some 10), none, .mv false (.c (.int .i64 0)), none⟩] (some [2, 4, 8, 9, 10])) (
.blk 0 (
  .loop (
    .seq (.reg false [
      ⟨(some 11), none, .bin .lss .i64 (.t 10) (.t 9), none⟩] (some [2, 4, 8, 9, 10, 11])) (
    .seq (.ite (.t 11) (
      .skip) (
      .exit 0)) (
    .seq (.blk 1 (
      .seq (.reg false [
        ⟨(some 12), none, .ixs 1 (.t 8) (.t 10), none⟩,
        ⟨(some 13), none, .ld none (.t 12), none⟩,
        ⟨(some 7), none, .alloc [(.int .u32 0)], none⟩,
        ⟨none, none, .st none (.t 7) (.t 13), none⟩] (some [2, 4, 7, 8, 9, 10])) (
      .seq (.reg false [
        ⟨(some 14), none, .ld none (.t 2), none⟩,
        ⟨(some 15), none, .clo 48 [(.t 4), (.t 7)], none⟩,
        ⟨(some 16), none, .call false 33 [(.t 14), (.t 15)], none⟩] (some [2, 4, 7, 8, 9, 10, 16])) (
      .ite (.t 16) (
        .seq (.reg false [
          ⟨(some 17), none, .ld none (.t 7), none⟩,
          ⟨(some 5), none, .mv false (.t 17), none⟩] (some [5])) (
        .ret)) (
        .skip))))) (
    .reg false [
      ⟨(some 18), none, .bin .add .i64 (.t 10) (.c (.int .i64 1)), none⟩,
      ⟨(some 10), none, .mv false (.t 18), none⟩] (some [2, 4, 8, 9, 10])))))))) (
.seq (.reg false [
  ⟨(some 5), none, .mv false (.c (.int .u32 0)), none⟩] (some [5])) (
.ret)))
set_option maxRecDepth 1000000 in
theorem comp_stack_Circulate_1 : (Try.f47.body.bind fun code => compC Try.prog Try.f47.ntmps code c_stack_Circulate_1) = some c_stack_Circulate_1.bare := by kernel_rfl
def r_stack_Circulate_1 : List R := [.t 5]
theorem spo_stack_Circulate_1 {ds : List D} {d : D} (hn : Nat.ble ds.length 19 = true) (h : run TSpC gtab 0 c_stack_Circulate_1 (retK r_stack_Circulate_1 (· = d)) ⟨env0 0 ds, []⟩) : TSp 47 ds d := Sp_of mixed c_stack_Circulate_1 r_stack_Circulate_1 (fn := Try.f47) (by kernel_rfl) (by kernel_rfl) comp_stack_Circulate_1 (by kernel_rfl) hn h
theorem spm_stack_Circulate_1 {ds : List D} {d : D} {bx bx' : List Ent} (hn : Nat.ble ds.length 19 = true) (h : run TSpC gtab (sizeE bx) c_stack_Circulate_1 (retG r_stack_Circulate_1 (fun d1 bx1 => Rt (sizeE bx) bx1 d1 d bx')) ⟨env0 0 ds, bx⟩) : TSpM 47 ds bx d bx' := SpM_of mixed c_stack_Circulate_1 r_stack_Circulate_1 (fn := Try.f47) (by kernel_rfl) (by kernel_rfl) comp_stack_Circulate_1 (by kernel_rfl) hn h
/-- glazier/stack.Circulate$1$1 -/
def c_stack_Circulate_1_1 : C := .seq (.reg false [
  ⟨(some 4), none, .mv false (.c (.bool false)), none⟩] (some [0, 1, 2])) (
.seq (.reg false [
  ⟨(some 5), none, .ld none (.t 1), none⟩,
  ⟨(some 6), none, .ld none (.t 2), none⟩,
  ⟨(some 7), none, .mv false (.t 0), none⟩,
  ⟨(some 8), none, .callv false (.t 5) [(.t 6), (.t 7)], none⟩,
  ⟨(some 4), none, .mv false (.t 8), none⟩] (some [4])) (
.ret))
set_option maxRecDepth 1000000 in
theorem comp_stack_Circulate_1_1 : (Try.f48.body.bind fun code => compC Try.prog Try.f48.ntmps code c_stack_Circulate_1_1) = some c_stack_Circulate_1_1.bare := by kernel_rfl
def r_stack_Circulate_1_1 : List R := [.t 4]
theorem spo_stack_Circulate_1_1 {ds : List D} {d : D} (hn : Nat.ble ds.length 9 = true) (h : run TSpC gtab 0 c_stack_Circulate_1_1 (retK r_stack_Circulate_1_1 (· = d)) ⟨env0 0 ds, []⟩) : TSp 48 ds d := Sp_of mixed c_stack_Circulate_1_1 r_stack_Circulate_1_1 (fn := Try.f48) (by kernel_rfl) (by kernel_rfl) comp_stack_Circulate_1_1 (by kernel_rfl) hn h
theorem spm_stack_Circulate_1_1 {ds : List D} {d : D} {bx bx' : List Ent} (hn : Nat.ble ds.length 9 = true) (h : run TSpC gtab (sizeE bx) c_stack_Circulate_1_1 (retG r_stack_Circulate_1_1 (fun d1 bx1 => Rt (sizeE bx) bx1 d1 d bx')) ⟨env0 0 ds, bx⟩) : TSpM 48 ds bx d bx' := SpM_of mixed c_stack_Circulate_1_1 r_stack_Circulate_1_1 (fn := Try.f48) (by kernel_rfl) (by kernel_rfl) comp_stack_Circulate_1_1 (by kernel_rfl) hn h
/-- glazier/stack.Circulate$2 -/
def c_stack_Circulate_2 : C := .seq (.reg false [
  ⟨(some 6), none, .mv false (.c (.bool false)), none⟩] (some [0, 1, 2, 3])) (
.seq (.reg false [
  ⟨(some 7), none, .ld (some 2) (.t 2), none⟩,
  ⟨(some 8), none, .mv false (.t 1), none⟩,
  ⟨(some 9), none, .mv false (.t 0), none⟩,
  ⟨(some 10), none, .ld none (.t 3), none⟩,
  ⟨(some 11), none, .call false 19 [(.t 7), (.t 8), (.t 9), (.t 10)], none⟩,
  ⟨(some 6), none, .mv false (.t 11), none⟩] (some [6])) (
.ret))
set_option maxRecDepth 1000000 in
theorem comp_stack_Circulate_2 : (Try.f49.body.bind fun code => compC Try.prog Try.f49.ntmps code c_stack_Circulate_2) = some c_stack_Circulate_2.bare := by kernel_rfl
def r_stack_Circulate_2 : List R := [.t 6]
theorem spo_stack_Circulate_2 {ds : List D} {d : D} (hn : Nat.ble ds.length 12 = true) (h : run TSpC gtab 0 c_stack_Circulate_2 (retK r_stack_Circulate_2 (· = d)) ⟨env0 0 ds, []⟩) : TSp 49 ds d := Sp_of mixed c_stack_Circulate_2 r_stack_Circulate_2 (fn := Try.f49) (by kernel_rfl) (by kernel_rfl) comp_stack_Circulate_2 (by kernel_rfl) hn h
theorem spm_stack_Circulate_2 {ds : List D} {d : D} {bx bx' : List Ent} (hn : Nat.ble ds.length 12 = true) (h : run TSpC gtab (sizeE bx) c_stack_Circulate_2 (retG r_stack_Circulate_2 (fun d1 bx1 => Rt (sizeE bx) bx1 d1 d bx')) ⟨env0 0 ds, bx⟩) : TSpM 49 ds bx d bx' := SpM_of mixed c_stack_Circulate_2 r_stack_Circulate_2 (fn := Try.f49) (by kernel_rfl) (by kernel_rfl) comp_stack_Circulate_2 (by kernel_rfl) hn h
/-- slices.Reverse[[]glazier/api.ID,glazier/api.ID] -/
def c_slices_Reverse_api_ID_api_ID : C := .seq (.reg false [
  ⟨(some 4), none, .mv false (.t 0), none⟩,
  ⟨(some 5), none, .len false (.t 4), none⟩,
  ⟨(some 6), none, .bin .sub .i64 (.t 5) (.c (.int .i64 1)), none⟩,
  ⟨(some 2), none, .mv false (.c (.int .i64 0)), none⟩,
  ⟨(some 3), none, .mv false (.t 6), none⟩] (some [0, 2, 3])) (
.blk 0 (
  .loop (
    .seq (.seq (.reg false [
      ⟨(some 7), none, .mv false (.t 2), none⟩,
      ⟨(some 8), none, .mv false (.t 3), none⟩,
      ⟨(some 9), none, .bin .lss .i64 (.t 7) (.t 8), none⟩] (some [0, 2, 3, 9])) (
    .ite (.t 9) (
      .skip) (
      .exit 0))) (
    .seq (.blk 1 (
      .reg true [
        ⟨(some 14), none, .mv false (.t 0), none⟩,
        ⟨(some 15), none, .mv false (.t 2), none⟩,
        ⟨(some 16), none, .mv false (.t 0), none⟩,
        ⟨(some 17), none, .mv false (.t 3), none⟩,
        ⟨(some 18), none, .mv false (.t 0), none⟩,
        ⟨(some 19), none, .mv false (.t 3), none⟩,
        ⟨(some 20), none, .ixs 1 (.t 18) (.t 19), none⟩,
        ⟨(some 21), none, .ld none (.t 20), none⟩,
        ⟨(some 22), none, .mv false (.t 0), none⟩,
        ⟨(some 23), none, .mv false (.t 2), none⟩,
        ⟨(some 24), none, .ixs 1 (.t 22) (.t 23), none⟩,
        ⟨(some 25), none, .ld none (.t 24), none⟩,
        ⟨(some 26), none, .ixs 1 (.t 14) (.t 15), none⟩,
        ⟨none, none, .st none (.t 26) (.t 21), none⟩,
        ⟨(some 27), none, .ixs 1 (.t 16) (.t 17), none⟩,
        ⟨none, none, .st none (.t 27) (.t 25), none⟩] (some [0, 2, 3]))) (
    .reg false [
      ⟨(some 10), none, .mv false (.t 2), none⟩,
      ⟨(some 11), none, .bin .add .i64 (.t 10) (.c (.int .i64 1)), none⟩,
      ⟨(some 12), none, .mv false (.t 3), none⟩,
      ⟨(some 13), none, .bin .sub .i64 (.t 12) (.c (.int .i64 1)), none⟩,
      ⟨(some 2), none, .mv false (.t 11), none⟩,
      ⟨(some 3), none, .mv false (.t 13), none⟩] (some [0, 2, 3]))))))
set_option maxRecDepth 1000000 in
theorem comp_slices_Reverse_api_ID_api_ID : (Try.f50.body.bind fun code => compC Try.prog Try.f50.ntmps code c_slices_Reverse_api_ID_api_ID) = some c_slices_Reverse_api_ID_api_ID.bare := by kernel_rfl
def r_slices_Reverse_api_ID_api_ID : List R := []
theorem spo_slices_Reverse_api_ID_api_ID {ds : List D} {d : D} (hn : Nat.ble ds.length 28 = true) (h : run TSpC gtab 0 c_slices_Reverse_api_ID_api_ID (retK r_slices_Reverse_api_ID_api_ID (· = d)) ⟨env0 0 ds, []⟩) : TSp 50 ds d := Sp_of mixed c_slices_Reverse_api_ID_api_ID r_slices_Reverse_api_ID_api_ID (fn := Try.f50) (by kernel_rfl) (by kernel_rfl) comp_slices_Reverse_api_ID_api_ID (by kernel_rfl) hn h
theorem spm_slices_Reverse_api_ID_api_ID {ds : List D} {d : D} {bx bx' : List Ent} (hn : Nat.ble ds.length 28 = true) (h : run TSpC gtab (sizeE bx) c_slices_Reverse_api_ID_api_ID (retG r_slices_Reverse_api_ID_api_ID (fun d1 bx1 => Rt (sizeE bx) bx1 d1 d bx')) ⟨env0 0 ds, bx⟩) : TSpM 50 ds bx d bx' := SpM_of mixed c_slices_Reverse_api_ID_api_ID r_slices_Reverse_api_ID_api_ID (fn := Try.f50) (by kernel_rfl) (by kernel_rfl) comp_slices_Reverse_api_ID_api_ID (by kernel_rfl) hn h
/-- glazier/stack.Circulate$3 -/
def c_stack_Circulate_3 : C := .seq (.reg false [
  ⟨(some 6), none, .mv false (.c (.bool false)), none⟩] (some [0, 1, 2, 3])) (
.seq (.reg false [
  ⟨(some 7), none, .ld (some 2) (.t 2), none⟩,
  ⟨(some 8), none, .mv false (.t 0), none⟩,
  ⟨(some 9), none, .mv false (.t 1), none⟩,
  ⟨(some 10), none, .ld none (.t 3), none⟩,
  ⟨(some 11), none, .call false 19 [(.t 7), (.t 8), (.t 9), (.t 10)], none⟩,
  ⟨(some 6), none, .mv false (.t 11), none⟩] (some [6])) (
.ret))
set_option maxRecDepth 1000000 in
theorem comp_stack_Circulate_3 : (Try.f51.body.bind fun code => compC Try.prog Try.f51.ntmps code c_stack_Circulate_3) = some c_stack_Circulate_3.bare := by kernel_rfl
def r_stack_Circulate_3 : List R := [.t 6]
theorem spo_stack_Circulate_3 {ds : List D} {d : D} (hn : Nat.ble ds.length 12 = true) (h : run TSpC gtab 0 c_stack_Circulate_3 (retK r_stack_Circulate_3 (· = d)) ⟨env0 0 ds, []⟩) : TSp 51 ds d := Sp_of mixed c_stack_Circulate_3 r_stack_Circulate_3 (fn := Try.f51) (by kernel_rfl) (by kernel_rfl) comp_stack_Circulate_3 (by kernel_rfl) hn h
theorem spm_stack_Circulate_3 {ds : List D} {d : D} {bx bx' : List Ent} (hn : Nat.ble ds.length 12 = true) (h : run TSpC gtab (sizeE bx) c_stack_Circulate_3 (retG r_stack_Circulate_3 (fun d1 bx1 => Rt (sizeE bx) bx1 d1 d bx')) ⟨env0 0 ds, bx⟩) : TSpM 51 ds bx d bx' := SpM_of mixed c_stack_Circulate_3 r_stack_Circulate_3 (fn := Try.f51) (by kernel_rfl) (by kernel_rfl) comp_stack_Circulate_3 (by kernel_rfl) hn h
/-- glazier/stack.Circulate -/
def c_stack_Circulate : C := .seq (.reg false [
  ⟨(some 4), none, .box true (.t 0), none⟩,
  ⟨(some 7), none, .box false (.t 3), none⟩,
  ⟨(some 8), none, .alloc [(.mp [] []), (.mp [] [])], none⟩,
  ⟨(some 9), none, .mv false (.c (.int .u32 0)), none⟩,
  ⟨(some 10), none, .mv false (.c (.bool false)), none⟩] (some [1, 2, 4, 7, 8])) (
.seq (.reg false [
  ⟨(some 18), none, .ld (some 2) (.t 4), none⟩,
  ⟨(some 19), none, .mv false (.t 1), none⟩,
  ⟨(some 20), none, .call false 27 [(.t 18), (.t 19)], none⟩,
  ⟨(some 11), none, .alloc [(.ls 1 [])], none⟩,
  ⟨none, none, .st none (.t 11) (.t 20), none⟩] (some [2, 4, 7, 8, 11])) (
.seq (.reg false [
  ⟨(some 21), none, .clo 47 [(.t 11)], none⟩,
  ⟨(some 12), none, .mv false (.t 21), none⟩] (some [2, 4, 7, 8, 11, 12])) (
.seq (.reg false [
  ⟨(some 13), none, .mv false (.c (.int .u32 0)), none⟩,
  ⟨(some 14), none, .mv false (.c (.int .i64 0)), none⟩] (some [2, 4, 7, 8, 11, 12, 14])) (
.seq (.seq (.reg false [
  ⟨(some 22), none, .mv false (.t 2), none⟩] (some [4, 7, 8, 11, 12, 14, 22])) (
.ite (.t 22) (
  .seq (.reg false [
    ⟨(some 23), none, .mv false (.t 12), none⟩,
    ⟨(some 24), none, .ld none (.t 11), none⟩,
    ⟨(some 25), none, .clo 49 [(.t 4), (.t 7)], none⟩,
    ⟨(some 26), none, .callv false (.t 23) [(.t 24), (.t 25)], none⟩,
    ⟨(some 13), none, .mv false (.t 26), none⟩] (some [4, 8, 11, 13])) (
  .reg false [
    ⟨(some 27), none, .ld none (.t 11), none⟩,
    ⟨(some 28), none, .len false (.t 27), none⟩,
    ⟨(some 29), none, .bin .sub .i64 (.t 28) (.c (.int .i64 1)), none⟩,
    ⟨(some 14), none, .mv false (.t 29), none⟩] (some [4, 8, 13, 14]))) (
  .seq (.reg false [
    ⟨(some 30), none, .ld none (.t 11), none⟩,
    ⟨(some 31), none, .call true 29 [(.t 30)], none⟩,
    ⟨(some 15), none, .mv false (.t 31), none⟩] (some [4, 7, 8, 12, 14, 15])) (
  .seq (.reg false [
    ⟨(some 32), none, .mv false (.t 15), none⟩,
    ⟨(some 33), none, .call true 50 [(.t 32)], none⟩] (some [4, 7, 8, 12, 14, 15])) (
  .reg false [
    ⟨(some 34), none, .mv false (.t 12), none⟩,
    ⟨(some 35), none, .mv true (.t 15), none⟩,
    ⟨(some 36), none, .clo 51 [(.t 4), (.t 7)], none⟩,
    ⟨(some 37), none, .callv false (.t 34) [(.t 35), (.t 36)], none⟩,
    ⟨(some 13), none, .mv false (.t 37), none⟩] (some [4, 8, 13, 14])))))) (
.seq (.seq (.reg false [
  ⟨(some 38), none, .mv false (.t 13), none⟩,
  ⟨(some 39), none, .bin .eql .u32 (.t 38) (.c (.int .u32 0)), none⟩] (some [4, 8, 13, 14, 39])) (
.ite (.t 39) (
  .seq (.reg false [
    ⟨(some 40), none, .ld (some 2) (.t 4), none⟩,
    ⟨none, none, .st (some 2) (.t 8) (.t 40), none⟩,
    ⟨(some 9), none, .mv false (.c (.int .u32 0)), none⟩,
    ⟨(some 10), none, .mv false (.c (.bool false)), none⟩] (some [8, 9, 10])) (
  .ret)) (
  .skip))) (
.seq (.reg false [
  ⟨(some 42), none, .ld (some 2) (.t 4), none⟩,
  ⟨(some 43), none, .mv false (.t 13), none⟩,
  ⟨(some 44), none, .mv false (.t 14), none⟩,
  ⟨(some 45), none, .call false 39 [(.t 42), (.t 43), (.t 44)], none⟩,
  ⟨(some 41), none, .mv false (.t 45), none⟩,
  ⟨(some 46), none, .ext (.t 41) 0, none⟩,
  ⟨(some 47), none, .ext (.t 41) 1, none⟩,
  ⟨(some 16), none, .alloc [(.mp [] []), (.mp [] [])], none⟩,
  ⟨none, none, .st (some 2) (.t 16) (.t 46), none⟩,
  ⟨(some 17), none, .mv false (.t 47), none⟩] (some [4, 8, 13, 16, 17])) (
.seq (.seq (.reg false [
  ⟨(some 48), none, .mv false (.t 17), none⟩,
  ⟨(some 49), none, .bin .neq .i64 (.t 48) (.c (.int .i64 0)), none⟩] (some [4, 8, 13, 16, 49])) (
.ite (.t 49) (
  .seq (.reg false [
    ⟨(some 50), none, .ld (some 2) (.t 4), none⟩,
    ⟨none, none, .st (some 2) (.t 8) (.t 50), none⟩,
    ⟨(some 9), none, .mv false (.c (.int .u32 0)), none⟩,
    ⟨(some 10), none, .mv false (.c (.bool false)), none⟩] (some [8, 9, 10])) (
  .ret)) (
  .skip))) (
.seq (.reg false [
  ⟨(some 51), none, .ld (some 2) (.t 16), none⟩,
  ⟨(some 52), none, .mv false (.t 13), none⟩,
  ⟨none, none, .st (some 2) (.t 8) (.t 51), none⟩,
  ⟨(some 9), none, .mv false (.t 52), none⟩,
  ⟨(some 10), none, .mv false (.c (.bool true)), none⟩] (some [8, 9, 10])) (
.ret)))))))))
set_option maxRecDepth 1000000 in
theorem comp_stack_Circulate : (Try.f22.body.bind fun code => compC Try.prog Try.f22.ntmps code c_stack_Circulate) = some c_stack_Circulate.bare := by kernel_rfl
def r_stack_Circulate : List R := [.cell 8 (some 2), .t 9, .t 10]
theorem spo_stack_Circulate {ds : List D} {d : D} (hn : Nat.ble ds.length 53 = true) (h : run TSpC gtab 0 c_stack_Circulate (retK r_stack_Circulate (· = d)) ⟨env0 0 ds, []⟩) : TSp 22 ds d := Sp_of mixed c_stack_Circulate r_stack_Circulate (fn := Try.f22) (by kernel_rfl) (by kernel_rfl) comp_stack_Circulate (by kernel_rfl) hn h
theorem spm_stack_Circulate {ds : List D} {d : D} {bx bx' : List Ent} (hn : Nat.ble ds.length 53 = true) (h : run TSpC gtab (sizeE bx) c_stack_Circulate (retG r_stack_Circulate (fun d1 bx1 => Rt (sizeE bx) bx1 d1 d bx')) ⟨env0 0 ds, bx⟩) : TSpM 22 ds bx d bx' := SpM_of mixed c_stack_Circulate r_stack_Circulate (fn := Try.f22) (by kernel_rfl) (by kernel_rfl) comp_stack_Circulate (by kernel_rfl) hn h
/-- glazier/glazierref29.Moved -/
def c_ref29_Moved : C := .seq (.reg false [
  ⟨(some 6), none, .nilS 63 5, none⟩] (some [0, 1, 2])) (
.seq (.reg false [
  ⟨(some 7), none, .nilS 63 5, none⟩,
  ⟨(some 8), none, .nilS 63 5, none⟩] (some [0, 1, 2, 7, 8])) (
.seq (.seq (.reg false [
  ⟨(some 9), none, .mv false (.c (.int .i64 0)), none⟩] (some [0, 1, 2, 7, 8, 9])) (
.blk 0 (
  .loop (
    .seq (.seq (.reg false [
      ⟨(some 11), none, .mv false (.t 9), none⟩,
      ⟨(some 12), none, .mv false (.t 0), none⟩,
      ⟨(some 13), none, .len false (.t 12), none⟩,
      ⟨(some 14), none, .bin .lss .i64 (.t 11) (.t 13), none⟩] (some [0, 1, 2, 7, 8, 9, 14])) (
    .ite (.t 14) (
      .skip) (
      .exit 0))) (
    .seq (.blk 1 (
      .seq (.reg false [
        ⟨(some 17), none, .mv false (.t 9), none⟩,
        ⟨(some 18), none, .mv false (.t 1), none⟩,
        ⟨(some 19), none, .bin .neq .i64 (.t 17) (.t 18), none⟩] (some [0, 1, 2, 7, 8, 9, 19])) (
      .ite (.t 19) (
        .reg false [
          ⟨(some 20), none, .mv false (.t 7), none⟩,
          ⟨(some 21), none, .mv false (.t 0), none⟩,
          ⟨(some 22), none, .mv false (.t 9), none⟩,
          ⟨(some 23), none, .ixs 5 (.t 21) (.t 22), none⟩,
          ⟨(some 24), none, .ld (some 5) (.t 23), none⟩,
          ⟨(some 25), none, .bsl none 63 5 (some 5) [(.t 24)], none⟩,
          ⟨(some 26), none, .app 63 5 40 (.t 20) (.t 25), none⟩,
          ⟨(some 7), none, .mv false (.t 26), none⟩] (some [0, 1, 2, 7, 8, 9])) (
        .skip)))) (
    .reg false [
      ⟨(some 15), none, .mv false (.t 9), none⟩,
      ⟨(some 16), none, .bin .add .i64 (.t 15) (.c (.int .i64 1)), none⟩,
      ⟨(some 9), none, .mv false (.t 16), none⟩] (some [0, 1, 2, 7, 8, 9]))))))) (
.seq (.seq (.reg false [
  ⟨(some 10), none, .mv false (.c (.int .i64 0)), none⟩] (some [0, 1, 2, 7, 8, 10])) (
.blk 2 (
  .loop (
    .seq (.seq (.reg false [
      ⟨(some 27), none, .mv false (.t 10), none⟩,
      ⟨(some 28), none, .mv false (.t 7), none⟩,
      ⟨(some 29), none, .len false (.t 28), none⟩,
      ⟨(some 30), none, .bin .leq .i64 (.t 27) (.t 29), none⟩] (some [0, 1, 2, 7, 8, 10, 30])) (
    .ite (.t 30) (
      .skip) (
      .exit 2))) (
    .seq (.blk 3 (
      .seq (.seq (.reg false [
        ⟨(some 33), none, .mv false (.t 10), none⟩,
        ⟨(some 34), none, .mv false (.t 2), none⟩,
        ⟨(some 35), none, .bin .eql .i64 (.t 33) (.t 34), none⟩] (some [0, 1, 2, 7, 8, 10, 35])) (
      .ite (.t 35) (
        .reg false [
          ⟨(some 36), none, .mv false (.t 8), none⟩,
          ⟨(some 37), none, .mv false (.t 0), none⟩,
          ⟨(some 38), none, .mv false (.t 1), none⟩,
          ⟨(some 39), none, .ixs 5 (.t 37) (.t 38), none⟩,
          ⟨(some 40), none, .ld (some 5) (.t 39), none⟩,
          ⟨(some 41), none, .bsl none 63 5 (some 5) [(.t 40)], none⟩,
          ⟨(some 42), none, .app 63 5 40 (.t 36) (.t 41), none⟩,
          ⟨(some 8), none, .mv false (.t 42), none⟩] (some [0, 1, 2, 7, 8, 10])) (
        .skip))) (
      .seq (.reg false [
        ⟨(some 43), none, .mv false (.t 10), none⟩,
        ⟨(some 44), none, .mv false (.t 7), none⟩,
        ⟨(some 45), none, .len false (.t 44), none⟩,
        ⟨(some 46), none, .bin .lss .i64 (.t 43) (.t 45), none⟩] (some [0, 1, 2, 7, 8, 10, 46])) (
      .ite (.t 46) (
        .reg false [
          ⟨(some 47), none, .mv false (.t 8), none⟩,
          ⟨(some 48), none, .mv false (.t 7), none⟩,
          ⟨(some 49), none, .mv false (.t 10), none⟩,
          ⟨(some 50), none, .ixs 5 (.t 48) (.t 49), none⟩,
          ⟨(some 51), none, .ld (some 5) (.t 50), none⟩,
          ⟨(some 52), none, .bsl none 63 5 (some 5) [(.t 51)], none⟩,
          ⟨(some 53), none, .app 63 5 40 (.t 47) (.t 52), none⟩,
          ⟨(some 8), none, .mv false (.t 53), none⟩] (some [0, 1, 2, 7, 8, 10])) (
        .skip))))) (
    .reg false [
      ⟨(some 31), none, .mv false (.t 10), none⟩,
      ⟨(some 32), none, .bin .add .i64 (.t 31) (.c (.int .i64 1)), none⟩,
      ⟨(some 10), none, .mv false (.t 32), none⟩] (some [0, 1, 2, 7, 8, 10]))))))) (
.seq (.reg false [
  ⟨(some 54), none, .mv false (.t 8), none⟩,
  ⟨(some 6), none, .mv false (.t 54), none⟩] (some [6])) (
.ret)))))
set_option maxRecDepth 1000000 in
theorem comp_ref29_Moved : (Try.f40.body.bind fun code => compC Try.prog Try.f40.ntmps code c_ref29_Moved) = some c_ref29_Moved.bare := by kernel_rfl
def r_ref29_Moved : List R := [.t 6]
theorem spo_ref29_Moved {ds : List D} {d : D} (hn : Nat.ble ds.length 55 = true) (h : run TSpC gtab 0 c_ref29_Moved (retK r_ref29_Moved (· = d)) ⟨env0 0 ds, []⟩) : TSp 40 ds d := Sp_of mixed c_ref29_Moved r_ref29_Moved (fn := Try.f40) (by kernel_rfl) (by kernel_rfl) comp_ref29_Moved (by kernel_rfl) hn h
theorem spm_ref29_Moved {ds : List D} {d : D} {bx bx' : List Ent} (hn : Nat.ble ds.length 55 = true) (h : run TSpC gtab (sizeE bx) c_ref29_Moved (retG r_ref29_Moved (fun d1 bx1 => Rt (sizeE bx) bx1 d1 d bx')) ⟨env0 0 ds, bx⟩) : TSpM 40 ds bx d bx' := SpM_of mixed c_ref29_Moved r_ref29_Moved (fn := Try.f40) (by kernel_rfl) (by kernel_rfl) comp_ref29_Moved (by kernel_rfl) hn h
/-- glazier/glazierref29.Restack -/
def c_ref29_Restack : C := .seq (.reg false [
  ⟨(some 8), none, .nilS 63 5, none⟩] (some [0, 1, 2, 3])) (
.seq (.reg false [
  ⟨(some 10), none, .mv false (.t 0), none⟩,
  ⟨(some 11), none, .len false (.t 10), none⟩,
  ⟨(some 12), none, .bin .sub .i64 (.t 11) (.c (.int .i64 1)), none⟩,
  ⟨(some 9), none, .mv false (.t 12), none⟩] (some [0, 1, 2, 3, 9])) (
.seq (.seq (.reg false [
  ⟨(some 13), none, .mv false (.t 3), none⟩] (some [0, 1, 2, 9, 13])) (
.blk 0 (
  .seq (.reg false [
    ⟨(some 15), none, .bin .eql .i64 (.t 13) (.c (.int .i64 0)), none⟩,
    ⟨(some 14), none, .mv false (.t 15), none⟩] (some [0, 1, 2, 9, 13, 14])) (
  .ite (.t 14) (
    .seq (.seq (.reg false [
      ⟨(some 16), none, .mv false (.t 2), none⟩,
      ⟨(some 17), none, .bin .lss .i64 (.t 16) (.c (.int .i64 0)), none⟩] (some [0, 1, 2, 9, 17])) (
    .ite (.t 17) (
      .seq (.reg false [
        ⟨(some 18), none, .mv false (.t 0), none⟩,
        ⟨(some 19), none, .mv false (.t 1), none⟩,
        ⟨(some 20), none, .mv false (.t 9), none⟩,
        ⟨(some 21), none, .call false 40 [(.t 18), (.t 19), (.t 20)], none⟩,
        ⟨(some 8), none, .mv false (.t 21), none⟩] (some [8])) (
      .ret)) (
      .skip))) (
    .seq (.seq (.reg false [
      ⟨(some 22), none, .mv false (.t 2), none⟩,
      ⟨(some 23), none, .mv false (.t 1), none⟩,
      ⟨(some 24), none, .bin .lss .i64 (.t 22) (.t 23), none⟩] (some [0, 1, 2, 24])) (
    .ite (.t 24) (
      .seq (.reg false [
        ⟨(some 25), none, .mv false (.t 0), none⟩,
        ⟨(some 26), none, .mv false (.t 1), none⟩,
        ⟨(some 27), none, .mv false (.t 2), none⟩,
        ⟨(some 28), none, .bin .add .i64 (.t 27) (.c (.int .i64 1)), none⟩,
        ⟨(some 29), none, .call false 40 [(.t 25), (.t 26), (.t 28)], none⟩,
        ⟨(some 8), none, .mv false (.t 29), none⟩] (some [8])) (
      .ret)) (
      .skip))) (
    .seq (.reg false [
      ⟨(some 30), none, .mv false (.t 0), none⟩,
      ⟨(some 31), none, .mv false (.t 1), none⟩,
      ⟨(some 32), none, .mv false (.t 2), none⟩,
      ⟨(some 33), none, .call false 40 [(.t 30), (.t 31), (.t 32)], none⟩,
      ⟨(some 8), none, .mv false (.t 33), none⟩] (some [8])) (
    .ret)))) (
    .seq (.reg false [
      ⟨(some 35), none, .bin .eql .i64 (.t 13) (.c (.int .i64 1)), none⟩,
      ⟨(some 34), none, .mv false (.t 35), none⟩] (some [0, 1, 2, 9, 13, 34])) (
    .ite (.t 34) (
      .seq (.seq (.reg false [
        ⟨(some 36), none, .mv false (.t 2), none⟩,
        ⟨(some 37), none, .bin .lss .i64 (.t 36) (.c (.int .i64 0)), none⟩] (some [0, 1, 2, 37])) (
      .ite (.t 37) (
        .seq (.reg false [
          ⟨(some 38), none, .mv false (.t 0), none⟩,
          ⟨(some 39), none, .mv false (.t 1), none⟩,
          ⟨(some 40), none, .call false 40 [(.t 38), (.t 39), (.c (.int .i64 0))], none⟩,
          ⟨(some 8), none, .mv false (.t 40), none⟩] (some [8])) (
        .ret)) (
        .skip))) (
      .seq (.seq (.reg false [
        ⟨(some 41), none, .mv false (.t 2), none⟩,
        ⟨(some 42), none, .mv false (.t 1), none⟩,
        ⟨(some 43), none, .bin .lss .i64 (.t 41) (.t 42), none⟩] (some [0, 1, 2, 43])) (
      .ite (.t 43) (
        .seq (.reg false [
          ⟨(some 44), none, .mv false (.t 0), none⟩,
          ⟨(some 45), none, .mv false (.t 1), none⟩,
          ⟨(some 46), none, .mv false (.t 2), none⟩,
          ⟨(some 47), none, .call false 40 [(.t 44), (.t 45), (.t 46)], none⟩,
          ⟨(some 8), none, .mv false (.t 47), none⟩] (some [8])) (
        .ret)) (
        .skip))) (
      .seq (.reg false [
        ⟨(some 48), none, .mv false (.t 0), none⟩,
        ⟨(some 49), none, .mv false (.t 1), none⟩,
        ⟨(some 50), none, .mv false (.t 2), none⟩,
        ⟨(some 51), none, .bin .sub .i64 (.t 50) (.c (.int .i64 1)), none⟩,
        ⟨(some 52), none, .call false 40 [(.t 48), (.t 49), (.t 51)], none⟩,
        ⟨(some 8), none, .mv false (.t 52), none⟩] (some [8])) (
      .ret)))) (
      .seq (.reg false [
        ⟨(some 54), none, .bin .eql .i64 (.t 13) (.c (.int .i64 2)), none⟩,
        ⟨(some 53), none, .mv false (.t 54), none⟩] (some [0, 1, 2, 9, 13, 53])) (
      .ite (.t 53) (
        .seq (.reg false [
          ⟨(some 55), none, .mv false (.t 0), none⟩,
          ⟨(some 56), none, .mv false (.t 1), none⟩,
          ⟨(some 57), none, .mv false (.t 2), none⟩,
          ⟨(some 58), none, .call false 41 [(.t 55), (.t 56), (.t 57)], none⟩] (some [0, 1, 9, 58])) (
        .ite (.t 58) (
          .seq (.reg false [
            ⟨(some 59), none, .mv false (.t 0), none⟩,
            ⟨(some 60), none, .mv false (.t 1), none⟩,
            ⟨(some 61), none, .mv false (.t 9), none⟩,
            ⟨(some 62), none, .call false 40 [(.t 59), (.t 60), (.t 61)], none⟩,
            ⟨(some 8), none, .mv false (.t 62), none⟩] (some [8])) (
          .ret)) (
          .skip))) (
        .seq (.reg false [
          ⟨(some 64), none, .bin .eql .i64 (.t 13) (.c (.int .i64 3)), none⟩,
          ⟨(some 63), none, .mv false (.t 64), none⟩] (some [0, 1, 2, 9, 13, 63])) (
        .ite (.t 63) (
          .seq (.reg false [
            ⟨(some 65), none, .mv false (.t 0), none⟩,
            ⟨(some 66), none, .mv false (.t 1), none⟩,
            ⟨(some 67), none, .mv false (.t 2), none⟩,
            ⟨(some 68), none, .call false 42 [(.t 65), (.t 66), (.t 67)], none⟩] (some [0, 1, 68])) (
          .ite (.t 68) (
            .seq (.reg false [
              ⟨(some 69), none, .mv false (.t 0), none⟩,
              ⟨(some 70), none, .mv false (.t 1), none⟩,
              ⟨(some 71), none, .call false 40 [(.t 69), (.t 70), (.c (.int .i64 0))], none⟩,
              ⟨(some 8), none, .mv false (.t 71), none⟩] (some [8])) (
            .ret)) (
            .skip))) (
          .seq (.reg false [
            ⟨(some 73), none, .bin .eql .i64 (.t 13) (.c (.int .i64 4)), none⟩,
            ⟨(some 72), none, .mv false (.t 73), none⟩] (some [0, 1, 2, 9, 72])) (
          .ite (.t 72) (
            .seq (.seq (.reg false [
              ⟨(some 74), none, .mv false (.t 0), none⟩,
              ⟨(some 75), none, .mv false (.t 1), none⟩,
              ⟨(some 76), none, .mv false (.t 2), none⟩,
              ⟨(some 77), none, .call false 41 [(.t 74), (.t 75), (.t 76)], none⟩] (some [0, 1, 2, 9, 77])) (
            .ite (.t 77) (
              .seq (.reg false [
                ⟨(some 78), none, .mv false (.t 0), none⟩,
                ⟨(some 79), none, .mv false (.t 1), none⟩,
                ⟨(some 80), none, .mv false (.t 9), none⟩,
                ⟨(some 81), none, .call false 40 [(.t 78), (.t 79), (.t 80)], none⟩,
                ⟨(some 8), none, .mv false (.t 81), none⟩] (some [8])) (
              .ret)) (
              .skip))) (
            .seq (.reg false [
              ⟨(some 82), none, .mv false (.t 0), none⟩,
              ⟨(some 83), none, .mv false (.t 1), none⟩,
              ⟨(some 84), none, .mv false (.t 2), none⟩,
              ⟨(some 85), none, .call false 42 [(.t 82), (.t 83), (.t 84)], none⟩] (some [0, 1, 85])) (
            .ite (.t 85) (
              .seq (.reg false [
                ⟨(some 86), none, .mv false (.t 0), none⟩,
                ⟨(some 87), none, .mv false (.t 1), none⟩,
                ⟨(some 88), none, .call false 40 [(.t 86), (.t 87), (.c (.int .i64 0))], none⟩,
                ⟨(some 8), none, .mv false (.t 88), none⟩] (some [8])) (
              .ret)) (
              .skip)))) (
            .skip))))))))))))) (
.seq (.reg false [
  ⟨(some 89), none, .mv false (.t 0), none⟩,
  ⟨(some 8), none, .mv false (.t 89), none⟩] (some [8])) (
.ret))))
set_option maxRecDepth 1000000 in
theorem comp_ref29_Restack : (Try.f16.body.bind fun code => compC Try.prog Try.f16.ntmps code c_ref29_Restack) = some c_ref29_Restack.bare := by kernel_rfl
def r_ref29_Restack : List R := [.t 8]
theorem spo_ref29_Restack {ds : List D} {d : D} (hn : Nat.ble ds.length 90 = true) (h : run TSpC gtab 0 c_ref29_Restack (retK r_ref29_Restack (· = d)) ⟨env0 0 ds, []⟩) : TSp 16 ds d := Sp_of mixed c_ref29_Restack r_ref29_Restack (fn := Try.f16) (by kernel_rfl) (by kernel_rfl) comp_ref29_Restack (by kernel_rfl) hn h
theorem spm_ref29_Restack {ds : List D} {d : D} {bx bx' : List Ent} (hn : Nat.ble ds.length 90 = true) (h : run TSpC gtab (sizeE bx) c_ref29_Restack (retG r_ref29_Restack (fun d1 bx1 => Rt (sizeE bx) bx1 d1 d bx')) ⟨env0 0 ds, bx⟩) : TSpM 16 ds bx d bx' := SpM_of mixed c_ref29_Restack r_ref29_Restack (fn := Try.f16) (by kernel_rfl) (by kernel_rfl) comp_ref29_Restack (by kernel_rfl) hn h
/-- glazier/glazierref29.Circulate -/
def c_ref29_Circulate : C := .seq (.reg false [
  ⟨(some 4), none, .nilS 63 5, none⟩,
  ⟨(some 5), none, .mv false (.c (.int .i64 0)), none⟩] (some [0, 1])) (
.seq (.seq (.reg false [
  ⟨(some 6), none, .mv false (.c (.int .i64 0)), none⟩] (some [0, 1, 6])) (
.blk 0 (
  .loop (
    .seq (.seq (.reg false [
      ⟨(some 8), none, .mv false (.t 6), none⟩,
      ⟨(some 9), none, .mv false (.t 0), none⟩,
      ⟨(some 10), none, .len false (.t 9), none⟩,
      ⟨(some 11), none, .bin .lss .i64 (.t 8) (.t 10), none⟩] (some [0, 1, 6, 11])) (
    .ite (.t 11) (
      .skip) (
      .exit 0))) (
    .seq (.blk 1 (
      .seq (.reg false [
        ⟨(some 14), none, .mv false (.t 6), none⟩,
        ⟨(some 7), none, .mv false (.t 14), none⟩] (some [0, 1, 6, 7])) (
      .seq (.seq (.reg false [
        ⟨(some 15), none, .mv false (.t 1), none⟩,
        ⟨(some 16), none, .not (.t 15), none⟩] (some [0, 1, 6, 7, 16])) (
      .ite (.t 16) (
        .reg false [
          ⟨(some 17), none, .mv false (.t 0), none⟩,
          ⟨(some 18), none, .len false (.t 17), none⟩,
          ⟨(some 19), none, .bin .sub .i64 (.t 18) (.c (.int .i64 1)), none⟩,
          ⟨(some 20), none, .mv false (.t 6), none⟩,
          ⟨(some 21), none, .bin .sub .i64 (.t 19) (.t 20), none⟩,
          ⟨(some 7), none, .mv false (.t 21), none⟩] (some [0, 1, 6, 7])) (
        .skip))) (
      .seq (.seq (.reg false [
        ⟨(some 22), none, .mv false (.t 1), none⟩,
        ⟨(some 23), none, .mv false (.t 22), none⟩,
        ⟨(some 24), some (23, true), .mv false (.t 0), none⟩,
        ⟨(some 25), some (23, true), .mv false (.t 7), none⟩,
        ⟨(some 26), some (23, true), .call false 41 [(.t 24), (.t 25), (.c (.int .i64 (-1)))], none⟩,
        ⟨(some 27), none, .pick (.t 23) (.t 26) (.c (.bool false)), none⟩] (some [0, 1, 6, 7, 27])) (
      .ite (.t 27) (
        .seq (.reg true [
          ⟨(some 28), none, .mv false (.t 0), none⟩,
          ⟨(some 29), none, .mv false (.t 7), none⟩,
          ⟨(some 30), none, .mv false (.t 0), none⟩,
          ⟨(some 31), none, .len false (.t 30), none⟩,
          ⟨(some 32), none, .bin .sub .i64 (.t 31) (.c (.int .i64 1)), none⟩,
          ⟨(some 33), none, .call false 40 [(.t 28), (.t 29), (.t 32)], none⟩,
          ⟨(some 34), none, .mv false (.t 0), none⟩,
          ⟨(some 35), none, .mv false (.t 7), none⟩,
          ⟨(some 36), none, .ixs 5 (.t 34) (.t 35), none⟩,
          ⟨(some 37), none, .fld 0 (.t 36), none⟩,
          ⟨(some 38), none, .ld none (.t 37), none⟩,
          ⟨(some 4), none, .mv false (.t 33), none⟩,
          ⟨(some 5), none, .mv false (.t 38), none⟩] (some [4, 5])) (
        .ret)) (
        .skip))) (
      .seq (.reg false [
        ⟨(some 39), none, .mv false (.t 1), none⟩,
        ⟨(some 40), none, .not (.t 39), none⟩,
        ⟨(some 41), none, .mv false (.t 40), none⟩,
        ⟨(some 42), some (41, true), .mv false (.t 0), none⟩,
        ⟨(some 43), some (41, true), .mv false (.t 7), none⟩,
        ⟨(some 44), some (41, true), .call false 42 [(.t 42), (.t 43), (.c (.int .i64 (-1)))], none⟩,
        ⟨(some 45), none, .pick (.t 41) (.t 44) (.c (.bool false)), none⟩] (some [0, 1, 6, 7, 45])) (
      .ite (.t 45) (
        .seq (.reg true [
          ⟨(some 46), none, .mv false (.t 0), none⟩,
          ⟨(some 47), none, .mv false (.t 7), none⟩,
          ⟨(some 48), none, .call false 40 [(.t 46), (.t 47), (.c (.int .i64 0))], none⟩,
          ⟨(some 49), none, .mv false (.t 0), none⟩,
          ⟨(some 50), none, .mv false (.t 7), none⟩,
          ⟨(some 51), none, .ixs 5 (.t 49) (.t 50), none⟩,
          ⟨(some 52), none, .fld 0 (.t 51), none⟩,
          ⟨(some 53), none, .ld none (.t 52), none⟩,
          ⟨(some 4), none, .mv false (.t 48), none⟩,
          ⟨(some 5), none, .mv false (.t 53), none⟩] (some [4, 5])) (
        .ret)) (
        .skip))))))) (
    .reg false [
      ⟨(some 12), none, .mv false (.t 6), none⟩,
      ⟨(some 13), none, .bin .add .i64 (.t 12) (.c (.int .i64 1)), none⟩,
      ⟨(some 6), none, .mv false (.t 13), none⟩] (some [0, 1, 6]))))))) (
.seq (.reg false [
  ⟨(some 54), none, .mv false (.t 0), none⟩,
  ⟨(some 4), none, .mv false (.t 54), none⟩,
  ⟨(some 5), none, .mv false (.c (.int .i64 0)), none⟩] (some [4, 5])) (
.ret)))
set_option maxRecDepth 1000000 in
theorem comp_ref29_Circulate : (Try.f23.body.bind fun code => compC Try.prog Try.f23.ntmps code c_ref29_Circulate) = some c_ref29_Circulate.bare := by kernel_rfl
def r_ref29_Circulate : List R := [.t 4, .t 5]
theorem spo_ref29_Circulate {ds : List D} {d : D} (hn : Nat.ble ds.length 55 = true) (h : run TSpC gtab 0 c_ref29_Circulate (retK r_ref29_Circulate (· = d)) ⟨env0 0 ds, []⟩) : TSp 23 ds d := Sp_of mixed c_ref29_Circulate r_ref29_Circulate (fn := Try.f23) (by kernel_rfl) (by kernel_rfl) comp_ref29_Circulate (by kernel_rfl) hn h
theorem spm_ref29_Circulate {ds : List D} {d : D} {bx bx' : List Ent} (hn : Nat.ble ds.length 55 = true) (h : run TSpC gtab (sizeE bx) c_ref29_Circulate (retG r_ref29_Circulate (fun d1 bx1 => Rt (sizeE bx) bx1 d1 d bx')) ⟨env0 0 ds, bx⟩) : TSpM 23 ds bx d bx' := SpM_of mixed c_ref29_Circulate r_ref29_Circulate (fn := Try.f23) (by kernel_rfl) (by kernel_rfl) comp_ref29_Circulate (by kernel_rfl) hn h
/-- glazier/glazierlaw29.great -/
def c_law29_great : C := .seq (.reg false [
  ⟨(some 1), none, .box true (.t 0), none⟩,
  ⟨(some 2), none, .mv false (.c (.bool false)), none⟩] (some [1])) (
.seq (.reg false [
  ⟨(some 3), none, .fld 0 (.t 1), none⟩,
  ⟨(some 4), none, .ld none (.t 3), none⟩,
  ⟨(some 5), none, .len false (.t 4), none⟩,
  ⟨(some 6), none, .bin .gtr .i64 (.t 5) (.c (.int .i64 8)), none⟩,
  ⟨(some 2), none, .mv false (.t 6), none⟩] (some [2])) (
.ret))
set_option maxRecDepth 1000000 in
theorem comp_law29_great : (Try.f9.body.bind fun code => compC Try.prog Try.f9.ntmps code c_law29_great) = some c_law29_great.bare := by kernel_rfl
def r_law29_great : List R := [.t 2]
theorem spo_law29_great {ds : List D} {d : D} (hn : Nat.ble ds.length 7 = true) (h : run TSpC gtab 0 c_law29_great (retK r_law29_great (· = d)) ⟨env0 0 ds, []⟩) : TSp 9 ds d := Sp_of mixed c_law29_great r_law29_great (fn := Try.f9) (by kernel_rfl) (by kernel_rfl) comp_law29_great (by kernel_rfl) hn h
theorem spm_law29_great {ds : List D} {d : D} {bx bx' : List Ent} (hn : Nat.ble ds.length 7 = true) (h : run TSpC gtab (sizeE bx) c_law29_great (retG r_law29_great (fun d1 bx1 => Rt (sizeE bx) bx1 d1 d bx')) ⟨env0 0 ds, bx⟩) : TSpM 9 ds bx d bx' := SpM_of mixed c_law29_great r_law29_great (fn := Try.f9) (by kernel_rfl) (by kernel_rfl) comp_law29_great (by kernel_rfl) hn h
/-- glazier/glazierlaw29.made -/
def c_law29_made : C := .seq (.reg false [
  ⟨(some 1), none, .box true (.t 0), none⟩,
  ⟨(some 2), none, .alloc [(.mp [] []), (.mp [] [])], none⟩,
  ⟨(some 3), none, .mv false (.c (.mp [] [])), none⟩,
  ⟨(some 4), none, .nilS 63 5, none⟩,
  ⟨(some 5), none, .mv false (.c (.bool false)), none⟩] (some [1, 2])) (
.seq (.reg false [
  ⟨(some 15), none, .call false 24 [], none⟩,
  ⟨(some 16), none, .prm false true (.mkm 32) [], none⟩,
  ⟨(some 6), none, .alloc [(.mp [] []), (.mp [] [])], none⟩,
  ⟨none, none, .st (some 2) (.t 6) (.t 15), none⟩,
  ⟨(some 7), none, .mv false (.t 16), none⟩] (some [1, 2, 6, 7])) (
.seq (.reg false [
  ⟨(some 8), none, .nilS 63 5, none⟩] (some [1, 2, 6, 7, 8])) (
.seq (.seq (.reg false [
  ⟨(some 9), none, .mv false (.c (.int .i64 0)), none⟩] (some [1, 2, 6, 7, 8, 9])) (
.blk 0 (
  .loop (
    .seq (.seq (.reg false [
      ⟨(some 17), none, .mv false (.t 9), none⟩,
      ⟨(some 18), none, .fld 0 (.t 1), none⟩,
      ⟨(some 19), none, .ld none (.t 18), none⟩,
      ⟨(some 20), none, .len false (.t 19), none⟩,
      ⟨(some 21), none, .bin .lss .i64 (.t 17) (.t 20), none⟩] (some [1, 2, 6, 7, 8, 9, 21])) (
    .ite (.t 21) (
      .skip) (
      .exit 0))) (
    .seq (.blk 1 (
      .seq (.reg false [
        ⟨(some 25), none, .ld (some 2) (.t 6), none⟩,
        ⟨(some 26), none, .mv false (.t 9), none⟩,
        ⟨(some 27), none, .bin .add .i64 (.c (.int .i64 1048576)) (.t 26), none⟩,
        ⟨(some 28), none, .bin .add .i64 (.t 27) (.c (.int .i64 1)), none⟩,
        ⟨(some 29), none, .conv .u32 (.t 28), none⟩,
        ⟨(some 30), none, .call false 25 [(.t 25), (.t 29), (.c (.int .u32 1))], none⟩,
        ⟨(some 24), none, .mv false (.t 30), none⟩,
        ⟨(some 31), none, .ext (.t 24) 0, none⟩,
        ⟨(some 32), none, .ext (.t 24) 1, none⟩,
        ⟨(some 10), none, .alloc [(.mp [] []), (.mp [] [])], none⟩,
        ⟨none, none, .st (some 2) (.t 10) (.t 31), none⟩,
        ⟨(some 11), none, .mv false (.t 32), none⟩] (some [1, 2, 6, 7, 8, 9, 10, 11])) (
      .seq (.seq (.reg false [
        ⟨(some 33), none, .mv false (.t 11), none⟩,
        ⟨(some 34), none, .bin .neq .i64 (.t 33) (.c (.int .i64 0)), none⟩] (some [1, 2, 6, 7, 8, 9, 10, 34])) (
      .ite (.t 34) (
        .seq (.reg false [
          ⟨(some 35), none, .ld (some 2) (.t 6), none⟩,
          ⟨(some 36), none, .mv false (.t 7), none⟩,
          ⟨(some 37), none, .mv false (.t 8), none⟩,
          ⟨none, none, .st (some 2) (.t 2) (.t 35), none⟩,
          ⟨(some 3), none, .mv false (.t 36), none⟩,
          ⟨(some 4), none, .mv false (.t 37), none⟩,
          ⟨(some 5), none, .mv false (.c (.bool false)), none⟩] (some [2, 3, 4, 5])) (
        .ret)) (
        .skip))) (
      .seq (.reg false [
        ⟨(some 38), none, .ld (some 2) (.t 10), none⟩,
        ⟨none, none, .st (some 2) (.t 6) (.t 38), none⟩] (some [1, 2, 6, 7, 8, 9])) (
      .seq (.reg false [
        ⟨(some 39), none, .mv false (.t 7), none⟩,
        ⟨(some 40), none, .mv false (.t 9), none⟩,
        ⟨(some 41), none, .bin .add .i64 (.c (.int .i64 1048576)) (.t 40), none⟩,
        ⟨(some 42), none, .bin .add .i64 (.t 41) (.c (.int .i64 1)), none⟩,
        ⟨(some 43), none, .conv .u32 (.t 42), none⟩,
        ⟨(some 44), none, .fld 0 (.t 1), none⟩,
        ⟨(some 45), none, .ld none (.t 44), none⟩,
        ⟨(some 46), none, .mv false (.t 9), none⟩,
        ⟨(some 47), none, .ixs 4 (.t 45) (.t 46), none⟩,
        ⟨(some 48), none, .ld (some 4) (.t 47), none⟩,
        ⟨none, none, .prm false true (.upd 32) [(.t 39), (.t 43), (.t 48)], none⟩] (some [1, 2, 6, 7, 8, 9])) (
      .reg false [
        ⟨(some 49), none, .mv false (.t 8), none⟩,
        ⟨(some 50), none, .mv false (.t 9), none⟩,
        ⟨(some 51), none, .bin .add .i64 (.t 50) (.c (.int .i64 1)), none⟩,
        ⟨(some 52), none, .fld 0 (.t 1), none⟩,
        ⟨(some 53), none, .ld none (.t 52), none⟩,
        ⟨(some 54), none, .mv false (.t 9), none⟩,
        ⟨(some 55), none, .ixs 4 (.t 53) (.t 54), none⟩,
        ⟨(some 56), none, .ld (some 4) (.t 55), none⟩,
        ⟨(some 57), none, .bld [(.int .i64 0), (.int .i64 0), (.int .i64 0), (.int .i64 0), (.int .i64 0)] [(0, none, (.t 51)), (1, (some 4), (.t 56))], none⟩,
        ⟨(some 58), none, .bsl none 63 5 (some 5) [(.t 57)], none⟩,
        ⟨(some 59), none, .app 63 5 40 (.t 49) (.t 58), none⟩,
        ⟨(some 8), none, .mv false (.t 59), none⟩] (some [1, 2, 6, 7, 8, 9]))))))) (
    .reg false [
      ⟨(some 22), none, .mv false (.t 9), none⟩,
      ⟨(some 23), none, .bin .add .i64 (.t 22) (.c (.int .i64 1)), none⟩,
      ⟨(some 9), none, .mv false (.t 23), none⟩] (some [1, 2, 6, 7, 8, 9]))))))) (
.seq (.seq (.reg false [
  ⟨(some 12), none, .mv false (.c (.int .i64 0)), none⟩] (some [1, 2, 6, 7, 8, 12])) (
.blk 2 (
  .loop (
    .seq (.seq (.reg false [
      ⟨(some 60), none, .mv false (.t 12), none⟩,
      ⟨(some 61), none, .fld 0 (.t 1), none⟩,
      ⟨(some 62), none, .ld none (.t 61), none⟩,
      ⟨(some 63), none, .len false (.t 62), none⟩,
      ⟨(some 64), none, .bin .lss .i64 (.t 60) (.t 63), none⟩] (some [1, 2, 6, 7, 8, 12, 64])) (
    .ite (.t 64) (
      .skip) (
      .exit 2))) (
    .seq (.blk 3 (
      .seq (.reg false [
        ⟨(some 67), none, .fld 1 (.t 1), none⟩,
        ⟨(some 68), none, .ld none (.t 67), none⟩,
        ⟨(some 69), none, .mv false (.t 12), none⟩,
        ⟨(some 70), none, .bin .rem .i64 (.t 69) (.c (.int .i64 8)), none⟩,
        ⟨(some 71), none, .bin .shr .u8 (.t 68) (.t 70), none⟩,
        ⟨(some 72), none, .bin .and .u8 (.t 71) (.c (.int .u8 1)), none⟩,
        ⟨(some 73), none, .bin .eql .u8 (.t 72) (.c (.int .u8 1)), none⟩] (some [1, 2, 6, 7, 8, 12, 73])) (
      .ite (.t 73) (
        .seq (.reg false [
          ⟨(some 75), none, .ld (some 2) (.t 6), none⟩,
          ⟨(some 76), none, .mv false (.t 12), none⟩,
          ⟨(some 77), none, .bin .add .i64 (.c (.int .i64 1048676)) (.t 76), none⟩,
          ⟨(some 78), none, .conv .u32 (.t 77), none⟩,
          ⟨(some 79), none, .mv false (.t 12), none⟩,
          ⟨(some 80), none, .bin .add .i64 (.c (.int .i64 1048576)) (.t 79), none⟩,
          ⟨(some 81), none, .bin .add .i64 (.t 80) (.c (.int .i64 1)), none⟩,
          ⟨(some 82), none, .conv .u32 (.t 81), none⟩,
          ⟨(some 83), none, .call false 25 [(.t 75), (.t 78), (.t 82)], none⟩,
          ⟨(some 74), none, .mv false (.t 83), none⟩,
          ⟨(some 84), none, .ext (.t 74) 0, none⟩,
          ⟨(some 85), none, .ext (.t 74) 1, none⟩,
          ⟨(some 13), none, .alloc [(.mp [] []), (.mp [] [])], none⟩,
          ⟨none, none, .st (some 2) (.t 13) (.t 84), none⟩,
          ⟨(some 14), none, .mv false (.t 85), none⟩] (some [1, 2, 6, 7, 8, 12, 13, 14])) (
        .seq (.seq (.reg false [
          ⟨(some 86), none, .mv false (.t 14), none⟩,
          ⟨(some 87), none, .bin .neq .i64 (.t 86) (.c (.int .i64 0)), none⟩] (some [1, 2, 6, 7, 8, 12, 13, 87])) (
        .ite (.t 87) (
          .seq (.reg false [
            ⟨(some 88), none, .ld (some 2) (.t 6), none⟩,
            ⟨(some 89), none, .mv false (.t 7), none⟩,
            ⟨(some 90), none, .mv false (.t 8), none⟩,
            ⟨none, none, .st (some 2) (.t 2) (.t 88), none⟩,
            ⟨(some 3), none, .mv false (.t 89), none⟩,
            ⟨(some 4), none, .mv false (.t 90), none⟩,
            ⟨(some 5), none, .mv false (.c (.bool false)), none⟩] (some [2, 3, 4, 5])) (
          .ret)) (
          .skip))) (
        .seq (.reg false [
          ⟨(some 91), none, .ld (some 2) (.t 13), none⟩,
          ⟨none, none, .st (some 2) (.t 6) (.t 91), none⟩] (some [1, 2, 6, 7, 8, 12])) (
        .reg false [
          ⟨(some 92), none, .mv false (.t 7), none⟩,
          ⟨(some 93), none, .mv false (.t 12), none⟩,
          ⟨(some 94), none, .bin .add .i64 (.c (.int .i64 1048676)) (.t 93), none⟩,
          ⟨(some 95), none, .conv .u32 (.t 94), none⟩,
          ⟨(some 96), none, .bld [(.int .i64 0), (.int .i64 0), (.int .i64 0), (.int .i64 0)] [(2, none, (.c (.int .i64 5))), (3, none, (.c (.int .i64 5)))], none⟩,
          ⟨none, none, .prm false true (.upd 32) [(.t 92), (.t 95), (.t 96)], none⟩] (some [1, 2, 6, 7, 8, 12]))))) (
        .skip)))) (
    .reg false [
      ⟨(some 65), none, .mv false (.t 12), none⟩,
      ⟨(some 66), none, .bin .add .i64 (.t 65) (.c (.int .i64 1)), none⟩,
      ⟨(some 12), none, .mv false (.t 66), none⟩] (some [1, 2, 6, 7, 8, 12]))))))) (
.seq (.reg false [
  ⟨(some 97), none, .ld (some 2) (.t 6), none⟩,
  ⟨(some 98), none, .mv false (.t 7), none⟩,
  ⟨(some 99), none, .mv false (.t 8), none⟩,
  ⟨none, none, .st (some 2) (.t 2) (.t 97), none⟩,
  ⟨(some 3), none, .mv false (.t 98), none⟩,
  ⟨(some 4), none, .mv false (.t 99), none⟩,
  ⟨(some 5), none, .mv false (.c (.bool true)), none⟩] (some [2, 3, 4, 5])) (
.ret))))))
set_option maxRecDepth 1000000 in
theorem comp_law29_made : (Try.f11.body.bind fun code => compC Try.prog Try.f11.ntmps code c_law29_made) = some c_law29_made.bare := by kernel_rfl
def r_law29_made : List R := [.cell 2 (some 2), .t 3, .t 4, .t 5]
theorem spo_law29_made {ds : List D} {d : D} (hn : Nat.ble ds.length 100 = true) (h : run TSpC gtab 0 c_law29_made (retK r_law29_made (· = d)) ⟨env0 0 ds, []⟩) : TSp 11 ds d := Sp_of mixed c_law29_made r_law29_made (fn := Try.f11) (by kernel_rfl) (by kernel_rfl) comp_law29_made (by kernel_rfl) hn h
theorem spm_law29_made {ds : List D} {d : D} {bx bx' : List Ent} (hn : Nat.ble ds.length 100 = true) (h : run TSpC gtab (sizeE bx) c_law29_made (retG r_law29_made (fun d1 bx1 => Rt (sizeE bx) bx1 d1 d bx')) ⟨env0 0 ds, bx⟩) : TSpM 11 ds bx d bx' := SpM_of mixed c_law29_made r_law29_made (fn := Try.f11) (by kernel_rfl) (by kernel_rfl) comp_law29_made (by kernel_rfl) hn h
/-- glazier/glazierlaw29.awake -/
def c_law29_awake : C := .seq (.reg false [
  ⟨(some 0), none, .mv false (.c (.bool false)), none⟩] (some [])) (
.seq (.reg false [
  ⟨(some 12), none, .bld [(.int .i64 0), (.int .i64 0), (.int .i64 0), (.int .i64 0)] [(2, none, (.c (.int .i64 4))), (3, none, (.c (.int .i64 4)))], none⟩,
  ⟨(some 13), none, .bld [(.int .i64 0), (.int .i64 0), (.int .i64 0), (.int .i64 0)] [(0, none, (.c (.int .i64 50))), (2, none, (.c (.int .i64 4))), (3, none, (.c (.int .i64 4)))], none⟩,
  ⟨(some 14), none, .bld [(.int .i64 0), (.int .i64 0), (.int .i64 0), (.int .i64 0)] [(0, none, (.c (.int .i64 2))), (2, none, (.c (.int .i64 4))), (3, none, (.c (.int .i64 4)))], none⟩,
  ⟨(some 15), none, .bsl none 61 4 (some 4) [(.t 12), (.t 13), (.t 14)], none⟩,
  ⟨(some 16), none, .bld [(.ls 4 []), (.int .u8 0)] [(0, none, (.t 15))], none⟩,
  ⟨(some 17), none, .call false 11 [(.t 16)], none⟩,
  ⟨(some 11), none, .mv false (.t 17), none⟩,
  ⟨(some 18), none, .ext (.t 11) 0, none⟩,
  ⟨(some 19), none, .ext (.t 11) 1, none⟩,
  ⟨(some 20), none, .ext (.t 11) 2, none⟩,
  ⟨(some 21), none, .ext (.t 11) 3, none⟩,
  ⟨(some 1), none, .alloc [(.mp [] []), (.mp [] [])], none⟩,
  ⟨none, none, .st (some 2) (.t 1) (.t 18), none⟩,
  ⟨(some 2), none, .mv false (.t 19), none⟩,
  ⟨(some 3), none, .mv false (.t 20), none⟩,
  ⟨(some 4), none, .mv false (.t 21), none⟩] (some [1, 2, 4])) (
.seq (.reg false [
  ⟨(some 23), none, .ld (some 2) (.t 1), none⟩,
  ⟨(some 24), none, .mv false (.t 2), none⟩,
  ⟨(some 25), none, .call false 12 [(.t 23), (.c (.int .u32 1048577)), (.c (.int .u32 0)), (.c (.int .i64 2)), (.t 24)], none⟩,
  ⟨(some 22), none, .mv false (.t 25), none⟩,
  ⟨(some 26), none, .ext (.t 22) 0, none⟩,
  ⟨(some 27), none, .ext (.t 22) 1, none⟩,
  ⟨(some 28), none, .ext (.t 22) 2, none⟩,
  ⟨(some 5), none, .alloc [(.mp [] []), (.mp [] [])], none⟩,
  ⟨none, none, .st (some 2) (.t 5) (.t 26), none⟩,
  ⟨(some 6), none, .mv false (.t 27), none⟩,
  ⟨(some 7), none, .mv false (.t 28), none⟩] (some [1, 2, 4, 5, 6, 7])) (
.seq (.reg false [
  ⟨(some 30), none, .ld (some 2) (.t 1), none⟩,
  ⟨(some 31), none, .mv false (.t 2), none⟩,
  ⟨(some 32), none, .call false 12 [(.t 30), (.c (.int .u32 1048579)), (.c (.int .u32 0)), (.c (.int .i64 4)), (.t 31)], none⟩,
  ⟨(some 29), none, .mv false (.t 32), none⟩,
  ⟨(some 33), none, .ext (.t 29) 0, none⟩,
  ⟨(some 34), none, .ext (.t 29) 1, none⟩,
  ⟨(some 35), none, .ext (.t 29) 2, none⟩,
  ⟨(some 8), none, .alloc [(.mp [] []), (.mp [] [])], none⟩,
  ⟨none, none, .st (some 2) (.t 8) (.t 33), none⟩,
  ⟨(some 9), none, .mv false (.t 34), none⟩,
  ⟨(some 10), none, .mv false (.t 35), none⟩] (some [4, 5, 6, 7, 8, 9, 10])) (
.seq (.reg false [
  ⟨(some 36), none, .mv false (.t 4), none⟩,
  ⟨(some 37), none, .mv false (.t 36), none⟩,
  ⟨(some 38), some (37, true), .mv false (.t 7), none⟩,
  ⟨(some 39), some (37, true), .bin .eql .i64 (.t 38) (.c (.int .i64 0)), none⟩,
  ⟨(some 40), none, .pick (.t 37) (.t 39) (.c (.bool false)), none⟩,
  ⟨(some 41), none, .mv false (.t 40), none⟩,
  ⟨(some 42), some (41, true), .mv false (.t 6), none⟩,
  ⟨(some 43), none, .pick (.t 41) (.t 42) (.c (.bool false)), none⟩,
  ⟨(some 44), none, .mv false (.t 43), none⟩,
  ⟨(some 45), some (44, true), .ld (some 2) (.t 5), none⟩,
  ⟨(some 46), some (44, true), .call false 15 [(.t 45)], none⟩,
  ⟨(some 47), some (44, true), .bld [(.int .i64 0), (.int .i64 0), (.int .i64 0), (.int .i64 0), (.int .i64 0)] [(0, none, (.c (.int .i64 2)))], none⟩,
  ⟨(some 48), some (44, true), .bld [(.int .i64 0), (.int .i64 0), (.int .i64 0), (.int .i64 0), (.int .i64 0)] [(0, none, (.c (.int .i64 3)))], none⟩,
  ⟨(some 49), some (44, true), .bld [(.int .i64 0), (.int .i64 0), (.int .i64 0), (.int .i64 0), (.int .i64 0)] [(0, none, (.c (.int .i64 1)))], none⟩,
  ⟨(some 50), some (44, true), .bsl none 63 5 (some 5) [(.t 47), (.t 48), (.t 49)], none⟩,
  ⟨(some 51), some (44, true), .call false 14 [(.t 46), (.t 50)], none⟩,
  ⟨(some 52), none, .pick (.t 44) (.t 51) (.c (.bool false)), none⟩,
  ⟨(some 53), none, .mv false (.t 52), none⟩,
  ⟨(some 54), some (53, true), .mv false (.t 10), none⟩,
  ⟨(some 55), some (53, true), .bin .eql .i64 (.t 54) (.c (.int .i64 0)), none⟩,
  ⟨(some 56), none, .pick (.t 53) (.t 55) (.c (.bool false)), none⟩,
  ⟨(some 57), none, .mv false (.t 56), none⟩,
  ⟨(some 58), some (57, true), .mv false (.t 9), none⟩,
  ⟨(some 59), none, .pick (.t 57) (.t 58) (.c (.bool false)), none⟩,
  ⟨(some 60), none, .mv false (.t 59), none⟩,
  ⟨(some 61), some (60, true), .ld (some 2) (.t 8), none⟩,
  ⟨(some 62), some (60, true), .call false 15 [(.t 61)], none⟩,
  ⟨(some 63), some (60, true), .bld [(.int .i64 0), (.int .i64 0), (.int .i64 0), (.int .i64 0), (.int .i64 0)] [(0, none, (.c (.int .i64 3)))], none⟩,
  ⟨(some 64), some (60, true), .bld [(.int .i64 0), (.int .i64 0), (.int .i64 0), (.int .i64 0), (.int .i64 0)] [(0, none, (.c (.int .i64 1)))], none⟩,
  ⟨(some 65), some (60, true), .bld [(.int .i64 0), (.int .i64 0), (.int .i64 0), (.int .i64 0), (.int .i64 0)] [(0, none, (.c (.int .i64 2)))], none⟩,
  ⟨(some 66), some (60, true), .bsl none 63 5 (some 5) [(.t 63), (.t 64), (.t 65)], none⟩,
  ⟨(some 67), some (60, true), .call false 14 [(.t 62), (.t 66)], none⟩,
  ⟨(some 68), none, .pick (.t 60) (.t 67) (.c (.bool false)), none⟩,
  ⟨(some 0), none, .mv false (.t 68), none⟩] (some [0])) (
.ret)))))
set_option maxRecDepth 1000000 in
theorem comp_law29_awake : (Try.f10.body.bind fun code => compC Try.prog Try.f10.ntmps code c_law29_awake) = some c_law29_awake.bare := by kernel_rfl
def r_law29_awake : List R := [.t 0]
theorem spo_law29_awake {ds : List D} {d : D} (hn : Nat.ble ds.length 69 = true) (h : run TSpC gtab 0 c_law29_awake (retK r_law29_awake (· = d)) ⟨env0 0 ds, []⟩) : TSp 10 ds d := Sp_of mixed c_law29_awake r_law29_awake (fn := Try.f10) (by kernel_rfl) (by kernel_rfl) comp_law29_awake (by kernel_rfl) hn h
theorem spm_law29_awake {ds : List D} {d : D} {bx bx' : List Ent} (hn : Nat.ble ds.length 69 = true) (h : run TSpC gtab (sizeE bx) c_law29_awake (retG r_law29_awake (fun d1 bx1 => Rt (sizeE bx) bx1 d1 d bx')) ⟨env0 0 ds, bx⟩) : TSpM 10 ds bx d bx' := SpM_of mixed c_law29_awake r_law29_awake (fn := Try.f10) (by kernel_rfl) (by kernel_rfl) comp_law29_awake (by kernel_rfl) hn h
/-- glazier/glazierlaw29.rest -/
def c_law29_rest : C := .seq (.reg false [
  ⟨(some 2), none, .box true (.t 0), none⟩,
  ⟨(some 3), none, .box true (.t 1), none⟩,
  ⟨(some 4), none, .mv false (.c (.bool false)), none⟩] (some [2, 3])) (
.seq (.seq (.reg false [
  ⟨(some 5), none, .mv false (.c (.int .i64 0)), none⟩] (some [2, 3, 5])) (
.blk 0 (
  .loop (
    .seq (.seq (.reg false [
      ⟨(some 7), none, .mv false (.t 5), none⟩,
      ⟨(some 8), none, .fld 0 (.t 3), none⟩,
      ⟨(some 9), none, .ld none (.t 8), none⟩,
      ⟨(some 10), none, .len false (.t 9), none⟩,
      ⟨(some 11), none, .bin .lss .i64 (.t 7) (.t 10), none⟩] (some [2, 3, 5, 11])) (
    .ite (.t 11) (
      .skip) (
      .exit 0))) (
    .seq (.blk 1 (
      .seq (.reg false [
        ⟨(some 14), none, .ld (some 2) (.t 2), none⟩,
        ⟨(some 15), none, .mv false (.t 5), none⟩,
        ⟨(some 16), none, .bin .add .i64 (.c (.int .i64 1048576)) (.t 15), none⟩,
        ⟨(some 17), none, .bin .add .i64 (.t 16) (.c (.int .i64 1)), none⟩,
        ⟨(some 18), none, .conv .u32 (.t 17), none⟩,
        ⟨(some 19), none, .call false 27 [(.t 14), (.t 18)], none⟩,
        ⟨(some 6), none, .mv false (.t 19), none⟩] (some [2, 3, 5, 6])) (
      .seq (.reg false [
        ⟨(some 20), none, .fld 1 (.t 3), none⟩,
        ⟨(some 21), none, .ld none (.t 20), none⟩,
        ⟨(some 22), none, .mv false (.t 5), none⟩,
        ⟨(some 23), none, .bin .rem .i64 (.t 22) (.c (.int .i64 8)), none⟩,
        ⟨(some 24), none, .bin .shr .u8 (.t 21) (.t 23), none⟩,
        ⟨(some 25), none, .bin .and .u8 (.t 24) (.c (.int .u8 1)), none⟩,
        ⟨(some 26), none, .bin .eql .u8 (.t 25) (.c (.int .u8 1)), none⟩] (some [2, 3, 5, 6, 26])) (
      .ite (.t 26) (
        .seq (.reg false [
          ⟨(some 27), none, .mv false (.t 6), none⟩,
          ⟨(some 28), none, .len false (.t 27), none⟩,
          ⟨(some 29), none, .bin .neq .i64 (.t 28) (.c (.int .i64 1)), none⟩,
          ⟨(some 30), none, .mv false (.t 29), none⟩,
          ⟨(some 31), some (30, false), .mv false (.t 6), none⟩,
          ⟨(some 32), some (30, false), .ixs 1 (.t 31) (.c (.int .i64 0)), none⟩,
          ⟨(some 33), some (30, false), .ld none (.t 32), none⟩,
          ⟨(some 34), some (30, false), .mv false (.t 5), none⟩,
          ⟨(some 35), some (30, false), .bin .add .i64 (.c (.int .i64 1048676)) (.t 34), none⟩,
          ⟨(some 36), some (30, false), .conv .u32 (.t 35), none⟩,
          ⟨(some 37), some (30, false), .bin .neq .u32 (.t 33) (.t 36), none⟩,
          ⟨(some 38), none, .pick (.t 30) (.c (.bool true)) (.t 37), none⟩] (some [2, 3, 5, 38])) (
        .ite (.t 38) (
          .seq (.reg false [
            ⟨(some 4), none, .mv false (.c (.bool false)), none⟩] (some [4])) (
          .ret)) (
          .skip))) (
        .seq (.reg false [
          ⟨(some 39), none, .mv false (.t 6), none⟩,
          ⟨(some 40), none, .len false (.t 39), none⟩,
          ⟨(some 41), none, .bin .neq .i64 (.t 40) (.c (.int .i64 0)), none⟩] (some [2, 3, 5, 41])) (
        .ite (.t 41) (
          .seq (.reg false [
            ⟨(some 4), none, .mv false (.c (.bool false)), none⟩] (some [4])) (
          .ret)) (
          .skip))))))) (
    .reg false [
      ⟨(some 12), none, .mv false (.t 5), none⟩,
      ⟨(some 13), none, .bin .add .i64 (.t 12) (.c (.int .i64 1)), none⟩,
      ⟨(some 5), none, .mv false (.t 13), none⟩] (some [2, 3, 5]))))))) (
.seq (.reg false [
  ⟨(some 4), none, .mv false (.c (.bool true)), none⟩] (some [4])) (
.ret)))
set_option maxRecDepth 1000000 in
theorem comp_law29_rest : (Try.f17.body.bind fun code => compC Try.prog Try.f17.ntmps code c_law29_rest) = some c_law29_rest.bare := by kernel_rfl
def r_law29_rest : List R := [.t 4]
theorem spo_law29_rest {ds : List D} {d : D} (hn : Nat.ble ds.length 42 = true) (h : run TSpC gtab 0 c_law29_rest (retK r_law29_rest (· = d)) ⟨env0 0 ds, []⟩) : TSp 17 ds d := Sp_of mixed c_law29_rest r_law29_rest (fn := Try.f17) (by kernel_rfl) (by kernel_rfl) comp_law29_rest (by kernel_rfl) hn h
theorem spm_law29_rest {ds : List D} {d : D} {bx bx' : List Ent} (hn : Nat.ble ds.length 42 = true) (h : run TSpC gtab (sizeE bx) c_law29_rest (retG r_law29_rest (fun d1 bx1 => Rt (sizeE bx) bx1 d1 d bx')) ⟨env0 0 ds, bx⟩) : TSpM 17 ds bx d bx' := SpM_of mixed c_law29_rest r_law29_rest (fn := Try.f17) (by kernel_rfl) (by kernel_rfl) comp_law29_rest (by kernel_rfl) hn h
/-- glazier/glazierlaw29.without -/
def c_law29_without : C := .seq (.reg false [
  ⟨(some 4), none, .nilS 63 5, none⟩] (some [0, 1])) (
.seq (.reg false [
  ⟨(some 5), none, .nilS 63 5, none⟩] (some [0, 1, 5])) (
.seq (.seq (.reg false [
  ⟨(some 6), none, .mv false (.c (.int .i64 0)), none⟩] (some [0, 1, 5, 6])) (
.blk 0 (
  .loop (
    .seq (.seq (.reg false [
      ⟨(some 7), none, .mv false (.t 6), none⟩,
      ⟨(some 8), none, .mv false (.t 0), none⟩,
      ⟨(some 9), none, .len false (.t 8), none⟩,
      ⟨(some 10), none, .bin .lss .i64 (.t 7) (.t 9), none⟩] (some [0, 1, 5, 6, 10])) (
    .ite (.t 10) (
      .skip) (
      .exit 0))) (
    .seq (.blk 1 (
      .seq (.reg false [
        ⟨(some 13), none, .mv false (.t 0), none⟩,
        ⟨(some 14), none, .mv false (.t 6), none⟩,
        ⟨(some 15), none, .ixs 5 (.t 13) (.t 14), none⟩,
        ⟨(some 16), none, .fld 0 (.t 15), none⟩,
        ⟨(some 17), none, .ld none (.t 16), none⟩,
        ⟨(some 18), none, .mv false (.t 1), none⟩,
        ⟨(some 19), none, .bin .neq .i64 (.t 17) (.t 18), none⟩] (some [0, 1, 5, 6, 19])) (
      .ite (.t 19) (
        .reg false [
          ⟨(some 20), none, .mv false (.t 5), none⟩,
          ⟨(some 21), none, .mv false (.t 0), none⟩,
          ⟨(some 22), none, .mv false (.t 6), none⟩,
          ⟨(some 23), none, .ixs 5 (.t 21) (.t 22), none⟩,
          ⟨(some 24), none, .ld (some 5) (.t 23), none⟩,
          ⟨(some 25), none, .bsl none 63 5 (some 5) [(.t 24)], none⟩,
          ⟨(some 26), none, .app 63 5 40 (.t 20) (.t 25), none⟩,
          ⟨(some 5), none, .mv false (.t 26), none⟩] (some [0, 1, 5, 6])) (
        .skip)))) (
    .reg false [
      ⟨(some 11), none, .mv false (.t 6), none⟩,
      ⟨(some 12), none, .bin .add .i64 (.t 11) (.c (.int .i64 1)), none⟩,
      ⟨(some 6), none, .mv false (.t 12), none⟩] (some [0, 1, 5, 6]))))))) (
.seq (.reg false [
  ⟨(some 27), none, .mv false (.t 5), none⟩,
  ⟨(some 4), none, .mv false (.t 27), none⟩] (some [4])) (
.ret))))
set_option maxRecDepth 1000000 in
theorem comp_law29_without : (Try.f21.body.bind fun code => compC Try.prog Try.f21.ntmps code c_law29_without) = some c_law29_without.bare := by kernel_rfl
def r_law29_without : List R := [.t 4]
theorem spo_law29_without {ds : List D} {d : D} (hn : Nat.ble ds.length 28 = true) (h : run TSpC gtab 0 c_law29_without (retK r_law29_without (· = d)) ⟨env0 0 ds, []⟩) : TSp 21 ds d := Sp_of mixed c_law29_without r_law29_without (fn := Try.f21) (by kernel_rfl) (by kernel_rfl) comp_law29_without (by kernel_rfl) hn h
theorem spm_law29_without {ds : List D} {d : D} {bx bx' : List Ent} (hn : Nat.ble ds.length 28 = true) (h : run TSpC gtab (sizeE bx) c_law29_without (retG r_law29_without (fun d1 bx1 => Rt (sizeE bx) bx1 d1 d bx')) ⟨env0 0 ds, bx⟩) : TSpM 21 ds bx d bx' := SpM_of mixed c_law29_without r_law29_without (fn := Try.f21) (by kernel_rfl) (by kernel_rfl) comp_law29_without (by kernel_rfl) hn h
/-- glazier/glazierlaw29.StackRestacks -/
def c_law29_StackRestacks : C := .seq (.reg false [
  ⟨(some 3), none, .box true (.t 0), none⟩,
  ⟨(some 4), none, .box true (.t 1), none⟩,
  ⟨(some 6), none, .mv false (.c (.bool false)), none⟩] (some [2, 3, 4])) (
.seq (.seq (.reg false [
  ⟨(some 20), none, .ld (some 2) (.t 3), none⟩,
  ⟨(some 21), none, .call false 9 [(.t 20)], none⟩] (some [2, 3, 4, 21])) (
.ite (.t 21) (
  .seq (.reg false [
    ⟨(some 22), none, .call false 10 [], none⟩,
    ⟨(some 6), none, .mv false (.t 22), none⟩] (some [6])) (
  .ret)) (
  .skip))) (
.seq (.reg false [
  ⟨(some 24), none, .ld (some 2) (.t 3), none⟩,
  ⟨(some 25), none, .call false 11 [(.t 24)], none⟩,
  ⟨(some 23), none, .mv false (.t 25), none⟩,
  ⟨(some 26), none, .ext (.t 23) 0, none⟩,
  ⟨(some 27), none, .ext (.t 23) 1, none⟩,
  ⟨(some 28), none, .ext (.t 23) 2, none⟩,
  ⟨(some 29), none, .ext (.t 23) 3, none⟩,
  ⟨(some 7), none, .alloc [(.mp [] []), (.mp [] [])], none⟩,
  ⟨none, none, .st (some 2) (.t 7) (.t 26), none⟩,
  ⟨(some 8), none, .mv false (.t 27), none⟩,
  ⟨(some 9), none, .mv false (.t 28), none⟩,
  ⟨(some 10), none, .mv false (.t 29), none⟩] (some [2, 3, 4, 7, 8, 9, 10])) (
.seq (.seq (.reg false [
  ⟨(some 30), none, .mv false (.t 10), none⟩,
  ⟨(some 31), none, .not (.t 30), none⟩] (some [2, 3, 4, 7, 8, 9, 31])) (
.ite (.t 31) (
  .seq (.reg false [
    ⟨(some 6), none, .mv false (.c (.bool false)), none⟩] (some [6])) (
  .ret)) (
  .skip))) (
.seq (.reg true [
  ⟨(some 32), none, .ixa 2 1 (.t 4) (.c (.int .i64 0)), none⟩,
  ⟨(some 33), none, .ld none (.t 32), none⟩,
  ⟨(some 34), none, .bin .rem .u8 (.t 33) (.c (.int .u8 12)), none⟩,
  ⟨(some 35), none, .conv .i64 (.t 34), none⟩,
  ⟨(some 36), none, .ixa 2 1 (.t 4) (.c (.int .i64 1)), none⟩,
  ⟨(some 37), none, .ld none (.t 36), none⟩,
  ⟨(some 38), none, .bin .rem .u8 (.t 37) (.c (.int .u8 12)), none⟩,
  ⟨(some 39), none, .conv .i64 (.t 38), none⟩,
  ⟨(some 11), none, .mv false (.t 35), none⟩,
  ⟨(some 12), none, .mv false (.t 39), none⟩] (some [2, 3, 7, 8, 9, 11, 12])) (
.seq (.reg false [
  ⟨(some 13), none, .mv false (.c (.int .u32 0)), none⟩] (some [2, 3, 7, 8, 9, 11, 12, 13])) (
.seq (.seq (.reg false [
  ⟨(some 40), none, .mv false (.t 12), none⟩,
  ⟨(some 41), none, .bin .gtr .i64 (.t 40) (.c (.int .i64 0)), none⟩] (some [2, 3, 7, 8, 9, 11, 12, 13, 41])) (
.ite (.t 41) (
  .reg false [
    ⟨(some 42), none, .mv false (.t 12), none⟩,
    ⟨(some 43), none, .bin .add .i64 (.c (.int .i64 1048576)) (.t 42), none⟩,
    ⟨(some 44), none, .conv .u32 (.t 43), none⟩,
    ⟨(some 13), none, .mv false (.t 44), none⟩] (some [2, 3, 7, 8, 9, 11, 12, 13])) (
  .skip))) (
.seq (.reg false [
  ⟨(some 46), none, .ld (some 2) (.t 7), none⟩,
  ⟨(some 47), none, .mv false (.t 11), none⟩,
  ⟨(some 48), none, .bin .add .i64 (.c (.int .i64 1048576)) (.t 47), none⟩,
  ⟨(some 49), none, .conv .u32 (.t 48), none⟩,
  ⟨(some 50), none, .mv false (.t 13), none⟩,
  ⟨(some 51), none, .mv false (.t 2), none⟩,
  ⟨(some 52), none, .mv false (.t 8), none⟩,
  ⟨(some 53), none, .call false 12 [(.t 46), (.t 49), (.t 50), (.t 51), (.t 52)], none⟩,
  ⟨(some 45), none, .mv false (.t 53), none⟩,
  ⟨(some 54), none, .ext (.t 45) 0, none⟩,
  ⟨(some 55), none, .ext (.t 45) 1, none⟩,
  ⟨(some 56), none, .ext (.t 45) 2, none⟩,
  ⟨(some 14), none, .alloc [(.mp [] []), (.mp [] [])], none⟩,
  ⟨none, none, .st (some 2) (.t 14) (.t 54), none⟩,
  ⟨(some 15), none, .mv false (.t 55), none⟩,
  ⟨(some 16), none, .mv false (.t 56), none⟩] (some [2, 3, 7, 9, 11, 12, 14, 15, 16])) (
.seq (.reg false [
  ⟨(some 57), none, .mv false (.t 9), none⟩,
  ⟨(some 58), none, .mv false (.t 11), none⟩,
  ⟨(some 59), none, .call false 13 [(.t 57), (.t 58)], none⟩,
  ⟨(some 60), none, .mv false (.t 9), none⟩,
  ⟨(some 61), none, .mv false (.t 12), none⟩,
  ⟨(some 62), none, .call false 13 [(.t 60), (.t 61)], none⟩,
  ⟨(some 17), none, .mv false (.t 59), none⟩,
  ⟨(some 18), none, .mv false (.t 62), none⟩] (some [2, 3, 7, 9, 12, 14, 15, 16, 17, 18])) (
.seq (.seq (.reg false [
  ⟨(some 63), none, .mv false (.t 17), none⟩,
  ⟨(some 64), none, .bin .lss .i64 (.t 63) (.c (.int .i64 0)), none⟩] (some [2, 3, 7, 9, 12, 14, 15, 16, 17, 18, 64])) (
.ite (.t 64) (
  .seq (.reg false [
    ⟨(some 65), none, .mv false (.t 16), none⟩,
    ⟨(some 66), none, .bin .eql .i64 (.t 65) (.c (.int .i64 6)), none⟩,
    ⟨(some 67), none, .mv false (.t 66), none⟩,
    ⟨(some 68), some (67, true), .mv false (.t 15), none⟩,
    ⟨(some 69), some (67, true), .not (.t 68), none⟩,
    ⟨(some 70), none, .pick (.t 67) (.t 69) (.c (.bool false)), none⟩,
    ⟨(some 71), none, .mv false (.t 70), none⟩,
    ⟨(some 72), some (71, true), .ld (some 2) (.t 14), none⟩,
    ⟨(some 73), some (71, true), .call false 15 [(.t 72)], none⟩,
    ⟨(some 74), some (71, true), .mv false (.t 9), none⟩,
    ⟨(some 75), some (71, true), .call false 14 [(.t 73), (.t 74)], none⟩,
    ⟨(some 76), none, .pick (.t 71) (.t 75) (.c (.bool false)), none⟩,
    ⟨(some 77), none, .mv false (.t 76), none⟩,
    ⟨(some 78), some (77, true), .call false 10 [], none⟩,
    ⟨(some 79), none, .pick (.t 77) (.t 78) (.c (.bool false)), none⟩,
    ⟨(some 6), none, .mv false (.t 79), none⟩] (some [6])) (
  .ret)) (
  .skip))) (
.seq (.seq (.reg false [
  ⟨(some 80), none, .mv false (.t 2), none⟩,
  ⟨(some 81), none, .bin .lss .i64 (.t 80) (.c (.int .i64 0)), none⟩,
  ⟨(some 82), none, .mv false (.t 81), none⟩,
  ⟨(some 83), some (82, false), .mv false (.t 2), none⟩,
  ⟨(some 84), some (82, false), .bin .gtr .i64 (.t 83) (.c (.int .i64 4)), none⟩,
  ⟨(some 85), none, .pick (.t 82) (.c (.bool true)) (.t 84), none⟩] (some [2, 3, 7, 9, 12, 14, 15, 16, 17, 18, 85])) (
.ite (.t 85) (
  .seq (.reg false [
    ⟨(some 86), none, .mv false (.t 16), none⟩,
    ⟨(some 87), none, .bin .eql .i64 (.t 86) (.c (.int .i64 10)), none⟩,
    ⟨(some 88), none, .mv false (.t 87), none⟩,
    ⟨(some 89), some (88, true), .mv false (.t 15), none⟩,
    ⟨(some 90), some (88, true), .not (.t 89), none⟩,
    ⟨(some 91), none, .pick (.t 88) (.t 90) (.c (.bool false)), none⟩,
    ⟨(some 92), none, .mv false (.t 91), none⟩,
    ⟨(some 93), some (92, true), .ld (some 2) (.t 14), none⟩,
    ⟨(some 94), some (92, true), .call false 15 [(.t 93)], none⟩,
    ⟨(some 95), some (92, true), .mv false (.t 9), none⟩,
    ⟨(some 96), some (92, true), .call false 14 [(.t 94), (.t 95)], none⟩,
    ⟨(some 97), none, .pick (.t 92) (.t 96) (.c (.bool false)), none⟩,
    ⟨(some 98), none, .mv false (.t 97), none⟩,
    ⟨(some 99), some (98, true), .call false 10 [], none⟩,
    ⟨(some 100), none, .pick (.t 98) (.t 99) (.c (.bool false)), none⟩,
    ⟨(some 6), none, .mv false (.t 100), none⟩] (some [6])) (
  .ret)) (
  .skip))) (
.seq (.seq (.reg false [
  ⟨(some 101), none, .mv false (.t 12), none⟩,
  ⟨(some 102), none, .bin .gtr .i64 (.t 101) (.c (.int .i64 0)), none⟩,
  ⟨(some 103), none, .mv false (.t 102), none⟩,
  ⟨(some 104), some (103, true), .mv false (.t 18), none⟩,
  ⟨(some 105), some (103, true), .bin .lss .i64 (.t 104) (.c (.int .i64 0)), none⟩,
  ⟨(some 106), some (103, true), .mv false (.t 105), none⟩,
  ⟨(some 107), some (106, false), .mv false (.t 18), none⟩,
  ⟨(some 108), some (106, false), .mv false (.t 17), none⟩,
  ⟨(some 109), some (106, false), .bin .eql .i64 (.t 107) (.t 108), none⟩,
  ⟨(some 110), some (103, true), .pick (.t 106) (.c (.bool true)) (.t 109), none⟩,
  ⟨(some 111), none, .pick (.t 103) (.t 110) (.c (.bool false)), none⟩] (some [2, 3, 7, 9, 14, 15, 16, 17, 18, 111])) (
.ite (.t 111) (
  .seq (.reg false [
    ⟨(some 112), none, .mv false (.t 16), none⟩,
    ⟨(some 113), none, .bin .eql .i64 (.t 112) (.c (.int .i64 14)), none⟩,
    ⟨(some 114), none, .mv false (.t 113), none⟩,
    ⟨(some 115), some (114, true), .mv false (.t 15), none⟩,
    ⟨(some 116), some (114, true), .not (.t 115), none⟩,
    ⟨(some 117), none, .pick (.t 114) (.t 116) (.c (.bool false)), none⟩,
    ⟨(some 118), none, .mv false (.t 117), none⟩,
    ⟨(some 119), some (118, true), .ld (some 2) (.t 14), none⟩,
    ⟨(some 120), some (118, true), .call false 15 [(.t 119)], none⟩,
    ⟨(some 121), some (118, true), .mv false (.t 9), none⟩,
    ⟨(some 122), some (118, true), .call false 14 [(.t 120), (.t 121)], none⟩,
    ⟨(some 123), none, .pick (.t 118) (.t 122) (.c (.bool false)), none⟩,
    ⟨(some 124), none, .mv false (.t 123), none⟩,
    ⟨(some 125), some (124, true), .call false 10 [], none⟩,
    ⟨(some 126), none, .pick (.t 124) (.t 125) (.c (.bool false)), none⟩,
    ⟨(some 6), none, .mv false (.t 126), none⟩] (some [6])) (
  .ret)) (
  .skip))) (
.seq (.reg false [
  ⟨(some 127), none, .mv false (.t 9), none⟩,
  ⟨(some 128), none, .mv false (.t 17), none⟩,
  ⟨(some 129), none, .mv false (.t 18), none⟩,
  ⟨(some 130), none, .mv false (.t 2), none⟩,
  ⟨(some 131), none, .call false 16 [(.t 127), (.t 128), (.t 129), (.t 130)], none⟩,
  ⟨(some 19), none, .mv false (.t 131), none⟩] (some [3, 7, 9, 14, 15, 16, 19])) (
.seq (.reg false [
  ⟨(some 132), none, .mv false (.t 16), none⟩,
  ⟨(some 133), none, .bin .eql .i64 (.t 132) (.c (.int .i64 0)), none⟩,
  ⟨(some 134), none, .mv false (.t 133), none⟩,
  ⟨(some 135), some (134, true), .ld (some 2) (.t 14), none⟩,
  ⟨(some 136), some (134, true), .call false 15 [(.t 135)], none⟩,
  ⟨(some 137), some (134, true), .mv false (.t 19), none⟩,
  ⟨(some 138), some (134, true), .call false 14 [(.t 136), (.t 137)], none⟩,
  ⟨(some 139), none, .pick (.t 134) (.t 138) (.c (.bool false)), none⟩,
  ⟨(some 140), none, .mv false (.t 139), none⟩,
  ⟨(some 141), some (140, true), .mv false (.t 15), none⟩,
  ⟨(some 142), some (140, true), .mv false (.t 19), none⟩,
  ⟨(some 143), some (140, true), .mv false (.t 9), none⟩,
  ⟨(some 144), some (140, true), .call false 14 [(.t 142), (.t 143)], none⟩,
  ⟨(some 145), some (140, true), .not (.t 144), none⟩,
  ⟨(some 146), some (140, true), .eqb false false (.t 141) (.t 145), none⟩,
  ⟨(some 147), none, .pick (.t 140) (.t 146) (.c (.bool false)), none⟩,
  ⟨(some 148), none, .mv false (.t 147), none⟩,
  ⟨(some 149), some (148, true), .ld (some 2) (.t 14), none⟩,
  ⟨(some 150), some (148, true), .ld (some 2) (.t 3), none⟩,
  ⟨(some 151), some (148, true), .call false 17 [(.t 149), (.t 150)], none⟩,
  ⟨(some 152), none, .pick (.t 148) (.t 151) (.c (.bool false)), none⟩,
  ⟨(some 153), none, .mv false (.t 152), none⟩,
  ⟨(some 154), some (153, true), .ld (some 2) (.t 7), none⟩,
  ⟨(some 155), some (153, true), .call false 15 [(.t 154)], none⟩,
  ⟨(some 156), some (153, true), .mv false (.t 9), none⟩,
  ⟨(some 157), some (153, true), .call false 14 [(.t 155), (.t 156)], none⟩,
  ⟨(some 158), none, .pick (.t 153) (.t 157) (.c (.bool false)), none⟩,
  ⟨(some 159), none, .mv false (.t 158), none⟩,
  ⟨(some 160), some (159, true), .call false 10 [], none⟩,
  ⟨(some 161), none, .pick (.t 159) (.t 160) (.c (.bool false)), none⟩,
  ⟨(some 6), none, .mv false (.t 161), none⟩] (some [6])) (
.ret))))))))))))))
set_option maxRecDepth 1000000 in
theorem comp_law29_StackRestacks : (Try.f3.body.bind fun code => compC Try.prog Try.f3.ntmps code c_law29_StackRestacks) = some c_law29_StackRestacks.bare := by kernel_rfl
def r_law29_StackRestacks : List R := [.t 6]
theorem spo_law29_StackRestacks {ds : List D} {d : D} (hn : Nat.ble ds.length 162 = true) (h : run TSpC gtab 0 c_law29_StackRestacks (retK r_law29_StackRestacks (· = d)) ⟨env0 0 ds, []⟩) : TSp 3 ds d := Sp_of mixed c_law29_StackRestacks r_law29_StackRestacks (fn := Try.f3) (by kernel_rfl) (by kernel_rfl) comp_law29_StackRestacks (by kernel_rfl) hn h
theorem spm_law29_StackRestacks {ds : List D} {d : D} {bx bx' : List Ent} (hn : Nat.ble ds.length 162 = true) (h : run TSpC gtab (sizeE bx) c_law29_StackRestacks (retG r_law29_StackRestacks (fun d1 bx1 => Rt (sizeE bx) bx1 d1 d bx')) ⟨env0 0 ds, bx⟩) : TSpM 3 ds bx d bx' := SpM_of mixed c_law29_StackRestacks r_law29_StackRestacks (fn := Try.f3) (by kernel_rfl) (by kernel_rfl) comp_law29_StackRestacks (by kernel_rfl) hn h
/-- glazier/glazierlaw29.StackHides -/
def c_law29_StackHides : C := .seq (.reg false [
  ⟨(some 2), none, .box true (.t 0), none⟩,
  ⟨(some 3), none, .box true (.t 1), none⟩,
  ⟨(some 4), none, .mv false (.c (.bool false)), none⟩] (some [2, 3])) (
.seq (.seq (.reg false [
  ⟨(some 16), none, .ld (some 2) (.t 2), none⟩,
  ⟨(some 17), none, .call false 9 [(.t 16)], none⟩] (some [2, 3, 17])) (
.ite (.t 17) (
  .seq (.reg false [
    ⟨(some 18), none, .call false 10 [], none⟩,
    ⟨(some 4), none, .mv false (.t 18), none⟩] (some [4])) (
  .ret)) (
  .skip))) (
.seq (.reg false [
  ⟨(some 20), none, .ld (some 2) (.t 2), none⟩,
  ⟨(some 21), none, .call false 11 [(.t 20)], none⟩,
  ⟨(some 19), none, .mv false (.t 21), none⟩,
  ⟨(some 22), none, .ext (.t 19) 0, none⟩,
  ⟨(some 23), none, .ext (.t 19) 1, none⟩,
  ⟨(some 24), none, .ext (.t 19) 2, none⟩,
  ⟨(some 25), none, .ext (.t 19) 3, none⟩,
  ⟨(some 5), none, .alloc [(.mp [] []), (.mp [] [])], none⟩,
  ⟨none, none, .st (some 2) (.t 5) (.t 22), none⟩,
  ⟨(some 6), none, .mv false (.t 23), none⟩,
  ⟨(some 7), none, .mv false (.t 24), none⟩,
  ⟨(some 8), none, .mv false (.t 25), none⟩] (some [3, 5, 6, 7, 8])) (
.seq (.seq (.reg false [
  ⟨(some 26), none, .mv false (.t 8), none⟩,
  ⟨(some 27), none, .not (.t 26), none⟩] (some [3, 5, 6, 7, 27])) (
.ite (.t 27) (
  .seq (.reg false [
    ⟨(some 4), none, .mv false (.c (.bool false)), none⟩] (some [4])) (
  .ret)) (
  .skip))) (
.seq (.reg true [
  ⟨(some 28), none, .ixa 2 1 (.t 3) (.c (.int .i64 0)), none⟩,
  ⟨(some 29), none, .ld none (.t 28), none⟩,
  ⟨(some 30), none, .bin .rem .u8 (.t 29) (.c (.int .u8 12)), none⟩,
  ⟨(some 31), none, .conv .i64 (.t 30), none⟩,
  ⟨(some 32), none, .ixa 2 1 (.t 3) (.c (.int .i64 1)), none⟩,
  ⟨(some 33), none, .ld none (.t 32), none⟩,
  ⟨(some 34), none, .bin .rem .u8 (.t 33) (.c (.int .u8 12)), none⟩,
  ⟨(some 35), none, .conv .i64 (.t 34), none⟩,
  ⟨(some 9), none, .mv false (.t 31), none⟩,
  ⟨(some 10), none, .mv false (.t 35), none⟩] (some [5, 6, 7, 9, 10])) (
.seq (.reg false [
  ⟨(some 36), none, .mv false (.t 7), none⟩,
  ⟨(some 37), none, .mv false (.t 9), none⟩,
  ⟨(some 38), none, .call false 13 [(.t 36), (.t 37)], none⟩,
  ⟨(some 39), none, .mv false (.t 7), none⟩,
  ⟨(some 40), none, .mv false (.t 10), none⟩,
  ⟨(some 41), none, .call false 13 [(.t 39), (.t 40)], none⟩,
  ⟨(some 11), none, .mv false (.t 38), none⟩,
  ⟨(some 12), none, .mv false (.t 41), none⟩] (some [5, 6, 7, 9, 10, 11, 12])) (
.seq (.reg false [
  ⟨(some 43), none, .ld (some 2) (.t 5), none⟩,
  ⟨(some 44), none, .mv false (.t 9), none⟩,
  ⟨(some 45), none, .bin .add .i64 (.c (.int .i64 1048576)) (.t 44), none⟩,
  ⟨(some 46), none, .conv .u32 (.t 45), none⟩,
  ⟨(some 47), none, .mv false (.t 10), none⟩,
  ⟨(some 48), none, .bin .add .i64 (.c (.int .i64 1048576)) (.t 47), none⟩,
  ⟨(some 49), none, .conv .u32 (.t 48), none⟩,
  ⟨(some 50), none, .call false 18 [(.t 43), (.t 46), (.t 49)], none⟩,
  ⟨(some 42), none, .mv false (.t 50), none⟩,
  ⟨(some 51), none, .ext (.t 42) 0, none⟩,
  ⟨(some 52), none, .ext (.t 42) 1, none⟩,
  ⟨(some 13), none, .mv false (.t 51), none⟩,
  ⟨(some 14), none, .mv false (.t 52), none⟩] (some [5, 6, 7, 9, 10, 11, 12, 13, 14])) (
.seq (.seq (.reg false [
  ⟨(some 53), none, .mv false (.t 11), none⟩,
  ⟨(some 54), none, .bin .lss .i64 (.t 53) (.c (.int .i64 0)), none⟩,
  ⟨(some 55), none, .mv false (.t 54), none⟩,
  ⟨(some 56), some (55, false), .mv false (.t 12), none⟩,
  ⟨(some 57), some (55, false), .bin .lss .i64 (.t 56) (.c (.int .i64 0)), none⟩,
  ⟨(some 58), none, .pick (.t 55) (.c (.bool true)) (.t 57), none⟩] (some [5, 6, 7, 9, 10, 11, 12, 13, 14, 58])) (
.ite (.t 58) (
  .seq (.reg false [
    ⟨(some 59), none, .mv false (.t 14), none⟩,
    ⟨(some 60), none, .not (.t 59), none⟩,
    ⟨(some 61), none, .mv false (.t 60), none⟩,
    ⟨(some 62), some (61, true), .mv false (.t 13), none⟩,
    ⟨(some 63), some (61, true), .bin .eql .i64 (.t 62) (.c (.int .i64 0)), none⟩,
    ⟨(some 64), none, .pick (.t 61) (.t 63) (.c (.bool false)), none⟩,
    ⟨(some 65), none, .mv false (.t 64), none⟩,
    ⟨(some 66), some (65, true), .ld (some 2) (.t 5), none⟩,
    ⟨(some 67), some (65, true), .mv false (.t 9), none⟩,
    ⟨(some 68), some (65, true), .bin .add .i64 (.c (.int .i64 1048576)) (.t 67), none⟩,
    ⟨(some 69), some (65, true), .conv .u32 (.t 68), none⟩,
    ⟨(some 70), some (65, true), .mv false (.t 10), none⟩,
    ⟨(some 71), some (65, true), .bin .add .i64 (.c (.int .i64 1048576)) (.t 70), none⟩,
    ⟨(some 72), some (65, true), .conv .u32 (.t 71), none⟩,
    ⟨(some 73), some (65, true), .mv false (.t 6), none⟩,
    ⟨(some 74), some (65, true), .call false 19 [(.t 66), (.t 69), (.t 72), (.t 73)], none⟩,
    ⟨(some 75), some (65, true), .not (.t 74), none⟩,
    ⟨(some 76), none, .pick (.t 65) (.t 75) (.c (.bool false)), none⟩,
    ⟨(some 77), none, .mv false (.t 76), none⟩,
    ⟨(some 78), some (77, true), .call false 10 [], none⟩,
    ⟨(some 79), none, .pick (.t 77) (.t 78) (.c (.bool false)), none⟩,
    ⟨(some 4), none, .mv false (.t 79), none⟩] (some [4])) (
  .ret)) (
  .skip))) (
.seq (.reg false [
  ⟨(some 15), none, .mv false (.c (.int .i64 0)), none⟩] (some [5, 6, 7, 9, 10, 11, 12, 13, 14, 15])) (
.seq (.seq (.reg false [
  ⟨(some 80), none, .mv false (.t 11), none⟩,
  ⟨(some 81), none, .mv false (.t 12), none⟩,
  ⟨(some 82), none, .bin .gtr .i64 (.t 80) (.t 81), none⟩] (some [5, 6, 7, 9, 10, 11, 12, 13, 14, 15, 82])) (
.ite (.t 82) (
  .reg false [
    ⟨(some 15), none, .mv false (.c (.int .i64 1)), none⟩] (some [5, 6, 7, 9, 10, 11, 12, 13, 14, 15])) (
  .skip))) (
.seq (.seq (.reg false [
  ⟨(some 83), none, .mv false (.t 11), none⟩,
  ⟨(some 84), none, .mv false (.t 12), none⟩,
  ⟨(some 85), none, .bin .lss .i64 (.t 83) (.t 84), none⟩] (some [5, 6, 7, 9, 10, 11, 12, 13, 14, 15, 85])) (
.ite (.t 85) (
  .reg false [
    ⟨(some 15), none, .mv false (.c (.int .i64 (-1))), none⟩] (some [5, 6, 7, 9, 10, 11, 12, 13, 14, 15])) (
  .skip))) (
.seq (.reg false [
  ⟨(some 86), none, .mv false (.t 14), none⟩,
  ⟨(some 87), none, .mv false (.t 86), none⟩,
  ⟨(some 88), some (87, true), .mv false (.t 13), none⟩,
  ⟨(some 89), some (87, true), .mv false (.t 15), none⟩,
  ⟨(some 90), some (87, true), .bin .eql .i64 (.t 88) (.t 89), none⟩,
  ⟨(some 91), none, .pick (.t 87) (.t 90) (.c (.bool false)), none⟩,
  ⟨(some 92), none, .mv false (.t 91), none⟩,
  ⟨(some 93), some (92, true), .ld (some 2) (.t 5), none⟩,
  ⟨(some 94), some (92, true), .mv false (.t 9), none⟩,
  ⟨(some 95), some (92, true), .bin .add .i64 (.c (.int .i64 1048576)) (.t 94), none⟩,
  ⟨(some 96), some (92, true), .conv .u32 (.t 95), none⟩,
  ⟨(some 97), some (92, true), .mv false (.t 10), none⟩,
  ⟨(some 98), some (92, true), .bin .add .i64 (.c (.int .i64 1048576)) (.t 97), none⟩,
  ⟨(some 99), some (92, true), .conv .u32 (.t 98), none⟩,
  ⟨(some 100), some (92, true), .mv false (.t 6), none⟩,
  ⟨(some 101), some (92, true), .call false 19 [(.t 93), (.t 96), (.t 99), (.t 100)], none⟩,
  ⟨(some 102), some (92, true), .mv false (.t 7), none⟩,
  ⟨(some 103), some (92, true), .mv false (.t 11), none⟩,
  ⟨(some 104), some (92, true), .mv false (.t 12), none⟩,
  ⟨(some 105), some (92, true), .call false 20 [(.t 102), (.t 103), (.t 104)], none⟩,
  ⟨(some 106), some (92, true), .eqb false false (.t 101) (.t 105), none⟩,
  ⟨(some 107), none, .pick (.t 92) (.t 106) (.c (.bool false)), none⟩,
  ⟨(some 108), none, .mv false (.t 107), none⟩,
  ⟨(some 109), some (108, true), .call false 10 [], none⟩,
  ⟨(some 110), none, .pick (.t 108) (.t 109) (.c (.bool false)), none⟩,
  ⟨(some 4), none, .mv false (.t 110), none⟩] (some [4])) (
.ret))))))))))))
set_option maxRecDepth 1000000 in
theorem comp_law29_StackHides : (Try.f4.body.bind fun code => compC Try.prog Try.f4.ntmps code c_law29_StackHides) = some c_law29_StackHides.bare := by kernel_rfl
def r_law29_StackHides : List R := [.t 4]
theorem spo_law29_StackHides {ds : List D} {d : D} (hn : Nat.ble ds.length 111 = true) (h : run TSpC gtab 0 c_law29_StackHides (retK r_law29_StackHides (· = d)) ⟨env0 0 ds, []⟩) : TSp 4 ds d := Sp_of mixed c_law29_StackHides r_law29_StackHides (fn := Try.f4) (by kernel_rfl) (by kernel_rfl) comp_law29_StackHides (by kernel_rfl) hn h
theorem spm_law29_StackHides {ds : List D} {d : D} {bx bx' : List Ent} (hn : Nat.ble ds.length 111 = true) (h : run TSpC gtab (sizeE bx) c_law29_StackHides (retG r_law29_StackHides (fun d1 bx1 => Rt (sizeE bx) bx1 d1 d bx')) ⟨env0 0 ds, bx⟩) : TSpM 4 ds bx d bx' := SpM_of mixed c_law29_StackHides r_law29_StackHides (fn := Try.f4) (by kernel_rfl) (by kernel_rfl) comp_law29_StackHides (by kernel_rfl) hn h
/-- glazier/glazierlaw29.StackFrees -/
def c_law29_StackFrees : C := .seq (.reg false [
  ⟨(some 2), none, .box true (.t 0), none⟩,
  ⟨(some 4), none, .mv false (.c (.bool false)), none⟩] (some [1, 2])) (
.seq (.seq (.reg false [
  ⟨(some 23), none, .ld (some 2) (.t 2), none⟩,
  ⟨(some 24), none, .call false 9 [(.t 23)], none⟩,
  ⟨(some 25), none, .mv false (.t 24), none⟩,
  ⟨(some 26), some (25, false), .fld 0 (.t 2), none⟩,
  ⟨(some 27), some (25, false), .ld none (.t 26), none⟩,
  ⟨(some 28), some (25, false), .len false (.t 27), none⟩,
  ⟨(some 29), some (25, false), .bin .eql .i64 (.t 28) (.c (.int .i64 0)), none⟩,
  ⟨(some 30), none, .pick (.t 25) (.c (.bool true)) (.t 29), none⟩] (some [1, 2, 30])) (
.ite (.t 30) (
  .seq (.reg false [
    ⟨(some 31), none, .call false 10 [], none⟩,
    ⟨(some 4), none, .mv false (.t 31), none⟩] (some [4])) (
  .ret)) (
  .skip))) (
.seq (.reg false [
  ⟨(some 33), none, .ld (some 2) (.t 2), none⟩,
  ⟨(some 34), none, .call false 11 [(.t 33)], none⟩,
  ⟨(some 32), none, .mv false (.t 34), none⟩,
  ⟨(some 35), none, .ext (.t 32) 0, none⟩,
  ⟨(some 36), none, .ext (.t 32) 1, none⟩,
  ⟨(some 37), none, .ext (.t 32) 2, none⟩,
  ⟨(some 38), none, .ext (.t 32) 3, none⟩,
  ⟨(some 5), none, .alloc [(.mp [] []), (.mp [] [])], none⟩,
  ⟨none, none, .st (some 2) (.t 5) (.t 35), none⟩,
  ⟨(some 6), none, .mv false (.t 36), none⟩,
  ⟨(some 7), none, .mv false (.t 37), none⟩,
  ⟨(some 8), none, .mv false (.t 38), none⟩] (some [1, 2, 5, 6, 8])) (
.seq (.seq (.reg false [
  ⟨(some 39), none, .mv false (.t 8), none⟩,
  ⟨(some 40), none, .not (.t 39), none⟩] (some [1, 2, 5, 6, 40])) (
.ite (.t 40) (
  .seq (.reg false [
    ⟨(some 4), none, .mv false (.c (.bool false)), none⟩] (some [4])) (
  .ret)) (
  .skip))) (
.seq (.reg false [
  ⟨(some 41), none, .mv false (.t 1), none⟩,
  ⟨(some 42), none, .conv .i64 (.t 41), none⟩,
  ⟨(some 43), none, .fld 0 (.t 2), none⟩,
  ⟨(some 44), none, .ld none (.t 43), none⟩,
  ⟨(some 45), none, .len false (.t 44), none⟩,
  ⟨(some 46), none, .bin .rem .i64 (.t 42) (.t 45), none⟩,
  ⟨(some 47), none, .bin .add .i64 (.c (.int .i64 1048577)) (.t 46), none⟩,
  ⟨(some 48), none, .conv .u32 (.t 47), none⟩,
  ⟨(some 9), none, .mv false (.t 48), none⟩] (some [2, 5, 6, 9])) (
.seq (.reg false [
  ⟨(some 50), none, .ld (some 2) (.t 5), none⟩,
  ⟨(some 51), none, .mv false (.t 9), none⟩,
  ⟨(some 52), none, .mv false (.t 6), none⟩,
  ⟨(some 53), none, .call false 12 [(.t 50), (.t 51), (.c (.int .u32 0)), (.c (.int .i64 2)), (.t 52)], none⟩,
  ⟨(some 49), none, .mv false (.t 53), none⟩,
  ⟨(some 54), none, .ext (.t 49) 0, none⟩,
  ⟨(some 55), none, .ext (.t 49) 1, none⟩,
  ⟨(some 56), none, .ext (.t 49) 2, none⟩,
  ⟨(some 10), none, .alloc [(.mp [] []), (.mp [] [])], none⟩,
  ⟨none, none, .st (some 2) (.t 10) (.t 54), none⟩,
  ⟨(some 11), none, .mv false (.t 55), none⟩,
  ⟨(some 12), none, .mv false (.t 56), none⟩] (some [2, 5, 6, 9, 10, 12])) (
.seq (.reg false [
  ⟨(some 58), none, .ld (some 2) (.t 5), none⟩,
  ⟨(some 59), none, .mv false (.t 9), none⟩,
  ⟨(some 60), none, .mv false (.t 6), none⟩,
  ⟨(some 61), none, .call false 12 [(.t 58), (.t 59), (.c (.int .u32 0)), (.c (.int .i64 3)), (.t 60)], none⟩,
  ⟨(some 57), none, .mv false (.t 61), none⟩,
  ⟨(some 62), none, .ext (.t 57) 0, none⟩,
  ⟨(some 63), none, .ext (.t 57) 1, none⟩,
  ⟨(some 64), none, .ext (.t 57) 2, none⟩,
  ⟨(some 13), none, .alloc [(.mp [] []), (.mp [] [])], none⟩,
  ⟨none, none, .st (some 2) (.t 13) (.t 62), none⟩,
  ⟨(some 14), none, .mv false (.t 63), none⟩,
  ⟨(some 15), none, .mv false (.t 64), none⟩] (some [2, 5, 6, 9, 10, 12, 13, 15])) (
.seq (.reg false [
  ⟨(some 66), none, .ld (some 2) (.t 5), none⟩,
  ⟨(some 67), none, .mv false (.t 9), none⟩,
  ⟨(some 68), none, .mv false (.t 6), none⟩,
  ⟨(some 69), none, .call false 12 [(.t 66), (.t 67), (.c (.int .u32 0)), (.c (.int .i64 4)), (.t 68)], none⟩,
  ⟨(some 65), none, .mv false (.t 69), none⟩,
  ⟨(some 70), none, .ext (.t 65) 0, none⟩,
  ⟨(some 71), none, .ext (.t 65) 1, none⟩,
  ⟨(some 72), none, .ext (.t 65) 2, none⟩,
  ⟨(some 16), none, .alloc [(.mp [] []), (.mp [] [])], none⟩,
  ⟨none, none, .st (some 2) (.t 16) (.t 70), none⟩,
  ⟨(some 17), none, .mv false (.t 71), none⟩,
  ⟨(some 18), none, .mv false (.t 72), none⟩] (some [2, 6, 9, 10, 12, 13, 15, 16, 18])) (
.seq (.seq (.reg false [
  ⟨(some 73), none, .mv false (.t 12), none⟩,
  ⟨(some 74), none, .bin .neq .i64 (.t 73) (.c (.int .i64 0)), none⟩,
  ⟨(some 75), none, .mv false (.t 74), none⟩,
  ⟨(some 76), some (75, false), .mv false (.t 15), none⟩,
  ⟨(some 77), some (75, false), .bin .neq .i64 (.t 76) (.c (.int .i64 0)), none⟩,
  ⟨(some 78), none, .pick (.t 75) (.c (.bool true)) (.t 77), none⟩,
  ⟨(some 79), none, .mv false (.t 78), none⟩,
  ⟨(some 80), some (79, false), .mv false (.t 18), none⟩,
  ⟨(some 81), some (79, false), .bin .neq .i64 (.t 80) (.c (.int .i64 0)), none⟩,
  ⟨(some 82), none, .pick (.t 79) (.c (.bool true)) (.t 81), none⟩] (some [2, 6, 9, 10, 13, 16, 82])) (
.ite (.t 82) (
  .seq (.reg false [
    ⟨(some 4), none, .mv false (.c (.bool false)), none⟩] (some [4])) (
  .ret)) (
  .skip))) (
.seq (.reg false [
  ⟨(some 19), none, .mv false (.c (.bool false)), none⟩,
  ⟨(some 20), none, .mv false (.c (.bool false)), none⟩] (some [2, 6, 9, 10, 13, 16, 19, 20])) (
.seq (.seq (.reg false [
  ⟨(some 21), none, .mv false (.c (.int .i64 0)), none⟩] (some [2, 6, 9, 10, 13, 16, 19, 20, 21])) (
.blk 0 (
  .loop (
    .seq (.seq (.reg false [
      ⟨(some 83), none, .mv false (.t 21), none⟩,
      ⟨(some 84), none, .fld 0 (.t 2), none⟩,
      ⟨(some 85), none, .ld none (.t 84), none⟩,
      ⟨(some 86), none, .len false (.t 85), none⟩,
      ⟨(some 87), none, .bin .lss .i64 (.t 83) (.t 86), none⟩] (some [2, 6, 9, 10, 13, 16, 19, 20, 21, 87])) (
    .ite (.t 87) (
      .skip) (
      .exit 0))) (
    .seq (.blk 1 (
      .seq (.reg false [
        ⟨(some 90), none, .mv false (.t 21), none⟩,
        ⟨(some 91), none, .bin .add .i64 (.c (.int .i64 1048577)) (.t 90), none⟩,
        ⟨(some 92), none, .conv .u32 (.t 91), none⟩,
        ⟨(some 22), none, .mv false (.t 92), none⟩] (some [2, 6, 9, 10, 13, 16, 19, 20, 21, 22])) (
      .seq (.seq (.reg false [
        ⟨(some 93), none, .ld (some 2) (.t 10), none⟩,
        ⟨(some 94), none, .mv false (.t 22), none⟩,
        ⟨(some 95), none, .mv false (.t 9), none⟩,
        ⟨(some 96), none, .mv false (.t 6), none⟩,
        ⟨(some 97), none, .call false 19 [(.t 93), (.t 94), (.t 95), (.t 96)], none⟩,
        ⟨(some 98), none, .mv false (.t 97), none⟩,
        ⟨(some 99), some (98, false), .ld (some 2) (.t 13), none⟩,
        ⟨(some 100), some (98, false), .mv false (.t 9), none⟩,
        ⟨(some 101), some (98, false), .mv false (.t 22), none⟩,
        ⟨(some 102), some (98, false), .mv false (.t 6), none⟩,
        ⟨(some 103), some (98, false), .call false 19 [(.t 99), (.t 100), (.t 101), (.t 102)], none⟩,
        ⟨(some 104), none, .pick (.t 98) (.c (.bool true)) (.t 103), none⟩] (some [2, 6, 9, 10, 13, 16, 19, 20, 21, 22, 104])) (
      .ite (.t 104) (
        .seq (.reg false [
          ⟨(some 4), none, .mv false (.c (.bool false)), none⟩] (some [4])) (
        .ret)) (
        .skip))) (
      .seq (.reg false [
        ⟨(some 105), none, .mv false (.t 19), none⟩,
        ⟨(some 106), none, .mv false (.t 105), none⟩,
        ⟨(some 107), some (106, false), .ld (some 2) (.t 16), none⟩,
        ⟨(some 108), some (106, false), .mv false (.t 22), none⟩,
        ⟨(some 109), some (106, false), .mv false (.t 9), none⟩,
        ⟨(some 110), some (106, false), .mv false (.t 6), none⟩,
        ⟨(some 111), some (106, false), .call false 19 [(.t 107), (.t 108), (.t 109), (.t 110)], none⟩,
        ⟨(some 112), none, .pick (.t 106) (.c (.bool true)) (.t 111), none⟩,
        ⟨(some 19), none, .mv false (.t 112), none⟩] (some [2, 6, 9, 10, 13, 16, 19, 20, 21, 22])) (
      .reg false [
        ⟨(some 113), none, .mv false (.t 20), none⟩,
        ⟨(some 114), none, .mv false (.t 113), none⟩,
        ⟨(some 115), some (114, false), .ld (some 2) (.t 16), none⟩,
        ⟨(some 116), some (114, false), .mv false (.t 9), none⟩,
        ⟨(some 117), some (114, false), .mv false (.t 22), none⟩,
        ⟨(some 118), some (114, false), .mv false (.t 6), none⟩,
        ⟨(some 119), some (114, false), .call false 19 [(.t 115), (.t 116), (.t 117), (.t 118)], none⟩,
        ⟨(some 120), none, .pick (.t 114) (.c (.bool true)) (.t 119), none⟩,
        ⟨(some 20), none, .mv false (.t 120), none⟩] (some [2, 6, 9, 10, 13, 16, 19, 20, 21])))))) (
    .reg false [
      ⟨(some 88), none, .mv false (.t 21), none⟩,
      ⟨(some 89), none, .bin .add .i64 (.t 88) (.c (.int .i64 1)), none⟩,
      ⟨(some 21), none, .mv false (.t 89), none⟩] (some [2, 6, 9, 10, 13, 16, 19, 20, 21]))))))) (
.seq (.reg false [
  ⟨(some 121), none, .mv false (.t 19), none⟩,
  ⟨(some 122), none, .mv false (.t 121), none⟩,
  ⟨(some 123), some (122, true), .mv false (.t 20), none⟩,
  ⟨(some 124), none, .pick (.t 122) (.t 123) (.c (.bool false)), none⟩,
  ⟨(some 125), none, .not (.t 124), none⟩,
  ⟨(some 126), none, .mv false (.t 125), none⟩,
  ⟨(some 127), some (126, true), .call false 10 [], none⟩,
  ⟨(some 128), none, .pick (.t 126) (.t 127) (.c (.bool false)), none⟩,
  ⟨(some 4), none, .mv false (.t 128), none⟩] (some [4])) (
.ret))))))))))))
set_option maxRecDepth 1000000 in
theorem comp_law29_StackFrees : (Try.f5.body.bind fun code => compC Try.prog Try.f5.ntmps code c_law29_StackFrees) = some c_law29_StackFrees.bare := by kernel_rfl
def r_law29_StackFrees : List R := [.t 4]
theorem spo_law29_StackFrees {ds : List D} {d : D} (hn : Nat.ble ds.length 129 = true) (h : run TSpC gtab 0 c_law29_StackFrees (retK r_law29_StackFrees (· = d)) ⟨env0 0 ds, []⟩) : TSp 5 ds d := Sp_of mixed c_law29_StackFrees r_law29_StackFrees (fn := Try.f5) (by kernel_rfl) (by kernel_rfl) comp_law29_StackFrees (by kernel_rfl) hn h
theorem spm_law29_StackFrees {ds : List D} {d : D} {bx bx' : List Ent} (hn : Nat.ble ds.length 129 = true) (h : run TSpC gtab (sizeE bx) c_law29_StackFrees (retG r_law29_StackFrees (fun d1 bx1 => Rt (sizeE bx) bx1 d1 d bx')) ⟨env0 0 ds, bx⟩) : TSpM 5 ds bx d bx' := SpM_of mixed c_law29_StackFrees r_law29_StackFrees (fn := Try.f5) (by kernel_rfl) (by kernel_rfl) comp_law29_StackFrees (by kernel_rfl) hn h
/-- glazier/glazierlaw29.StackTwice -/
def c_law29_StackTwice : C := .seq (.reg false [
  ⟨(some 3), none, .box true (.t 0), none⟩,
  ⟨(some 4), none, .box true (.t 1), none⟩,
  ⟨(some 6), none, .mv false (.c (.bool false)), none⟩] (some [2, 3, 4])) (
.seq (.seq (.reg false [
  ⟨(some 28), none, .ld (some 2) (.t 3), none⟩,
  ⟨(some 29), none, .call false 9 [(.t 28)], none⟩,
  ⟨(some 30), none, .mv false (.t 29), none⟩,
  ⟨(some 31), some (30, false), .fld 0 (.t 3), none⟩,
  ⟨(some 32), some (30, false), .ld none (.t 31), none⟩,
  ⟨(some 33), some (30, false), .len false (.t 32), none⟩,
  ⟨(some 34), some (30, false), .bin .lss .i64 (.t 33) (.c (.int .i64 2)), none⟩,
  ⟨(some 35), none, .pick (.t 30) (.c (.bool true)) (.t 34), none⟩] (some [2, 3, 4, 35])) (
.ite (.t 35) (
  .seq (.reg false [
    ⟨(some 36), none, .call false 10 [], none⟩,
    ⟨(some 6), none, .mv false (.t 36), none⟩] (some [6])) (
  .ret)) (
  .skip))) (
.seq (.reg false [
  ⟨(some 38), none, .ld (some 2) (.t 3), none⟩,
  ⟨(some 39), none, .call false 11 [(.t 38)], none⟩,
  ⟨(some 37), none, .mv false (.t 39), none⟩,
  ⟨(some 40), none, .ext (.t 37) 0, none⟩,
  ⟨(some 41), none, .ext (.t 37) 1, none⟩,
  ⟨(some 42), none, .ext (.t 37) 2, none⟩,
  ⟨(some 43), none, .ext (.t 37) 3, none⟩,
  ⟨(some 7), none, .alloc [(.mp [] []), (.mp [] [])], none⟩,
  ⟨none, none, .st (some 2) (.t 7) (.t 40), none⟩,
  ⟨(some 8), none, .mv false (.t 41), none⟩,
  ⟨(some 9), none, .mv false (.t 42), none⟩,
  ⟨(some 10), none, .mv false (.t 43), none⟩] (some [2, 3, 4, 7, 8, 9, 10])) (
.seq (.seq (.reg false [
  ⟨(some 44), none, .mv false (.t 10), none⟩,
  ⟨(some 45), none, .not (.t 44), none⟩] (some [2, 3, 4, 7, 8, 9, 45])) (
.ite (.t 45) (
  .seq (.reg false [
    ⟨(some 6), none, .mv false (.c (.bool false)), none⟩] (some [6])) (
  .ret)) (
  .skip))) (
.seq (.reg true [
  ⟨(some 46), none, .ixa 2 1 (.t 4) (.c (.int .i64 0)), none⟩,
  ⟨(some 47), none, .ld none (.t 46), none⟩,
  ⟨(some 48), none, .conv .i64 (.t 47), none⟩,
  ⟨(some 49), none, .fld 0 (.t 3), none⟩,
  ⟨(some 50), none, .ld none (.t 49), none⟩,
  ⟨(some 51), none, .len false (.t 50), none⟩,
  ⟨(some 52), none, .bin .rem .i64 (.t 48) (.t 51), none⟩,
  ⟨(some 53), none, .bin .add .i64 (.c (.int .i64 1)) (.t 52), none⟩,
  ⟨(some 54), none, .ixa 2 1 (.t 4) (.c (.int .i64 1)), none⟩,
  ⟨(some 55), none, .ld none (.t 54), none⟩,
  ⟨(some 56), none, .conv .i64 (.t 55), none⟩,
  ⟨(some 57), none, .fld 0 (.t 3), none⟩,
  ⟨(some 58), none, .ld none (.t 57), none⟩,
  ⟨(some 59), none, .len false (.t 58), none⟩,
  ⟨(some 60), none, .bin .rem .i64 (.t 56) (.t 59), none⟩,
  ⟨(some 61), none, .bin .add .i64 (.c (.int .i64 1)) (.t 60), none⟩,
  ⟨(some 11), none, .mv false (.t 53), none⟩,
  ⟨(some 12), none, .mv false (.t 61), none⟩] (some [2, 7, 8, 9, 11, 12])) (
.seq (.seq (.reg false [
  ⟨(some 62), none, .mv false (.t 11), none⟩,
  ⟨(some 63), none, .mv false (.t 12), none⟩,
  ⟨(some 64), none, .bin .eql .i64 (.t 62) (.t 63), none⟩] (some [2, 7, 8, 9, 11, 12, 64])) (
.ite (.t 64) (
  .seq (.reg false [
    ⟨(some 65), none, .call false 10 [], none⟩,
    ⟨(some 6), none, .mv false (.t 65), none⟩] (some [6])) (
  .ret)) (
  .skip))) (
.seq (.reg false [
  ⟨(some 13), none, .mv false (.c (.int .i64 0)), none⟩,
  ⟨(some 14), none, .mv false (.c (.int .i64 1)), none⟩] (some [2, 7, 8, 9, 11, 12, 13, 14])) (
.seq (.seq (.reg false [
  ⟨(some 66), none, .mv false (.t 2), none⟩] (some [7, 8, 9, 11, 12, 13, 14, 66])) (
.ite (.t 66) (
  .reg false [
    ⟨(some 13), none, .mv false (.c (.int .i64 1)), none⟩,
    ⟨(some 14), none, .mv false (.c (.int .i64 (-1))), none⟩] (some [7, 8, 9, 11, 12, 13, 14])) (
  .skip))) (
.seq (.reg false [
  ⟨(some 68), none, .ld (some 2) (.t 7), none⟩,
  ⟨(some 69), none, .mv false (.t 11), none⟩,
  ⟨(some 70), none, .bin .add .i64 (.c (.int .i64 1048576)) (.t 69), none⟩,
  ⟨(some 71), none, .conv .u32 (.t 70), none⟩,
  ⟨(some 72), none, .mv false (.t 12), none⟩,
  ⟨(some 73), none, .bin .add .i64 (.c (.int .i64 1048576)) (.t 72), none⟩,
  ⟨(some 74), none, .conv .u32 (.t 73), none⟩,
  ⟨(some 75), none, .mv false (.t 13), none⟩,
  ⟨(some 76), none, .mv false (.t 8), none⟩,
  ⟨(some 77), none, .call false 12 [(.t 68), (.t 71), (.t 74), (.t 75), (.t 76)], none⟩,
  ⟨(some 67), none, .mv false (.t 77), none⟩,
  ⟨(some 78), none, .ext (.t 67) 0, none⟩,
  ⟨(some 79), none, .ext (.t 67) 1, none⟩,
  ⟨(some 80), none, .ext (.t 67) 2, none⟩,
  ⟨(some 15), none, .alloc [(.mp [] []), (.mp [] [])], none⟩,
  ⟨none, none, .st (some 2) (.t 15) (.t 78), none⟩,
  ⟨(some 16), none, .mv false (.t 79), none⟩,
  ⟨(some 17), none, .mv false (.t 80), none⟩] (some [7, 8, 9, 11, 12, 13, 14, 15, 17])) (
.seq (.reg false [
  ⟨(some 82), none, .ld (some 2) (.t 15), none⟩,
  ⟨(some 83), none, .mv false (.t 11), none⟩,
  ⟨(some 84), none, .bin .add .i64 (.c (.int .i64 1048576)) (.t 83), none⟩,
  ⟨(some 85), none, .conv .u32 (.t 84), none⟩,
  ⟨(some 86), none, .mv false (.t 12), none⟩,
  ⟨(some 87), none, .bin .add .i64 (.c (.int .i64 1048576)) (.t 86), none⟩,
  ⟨(some 88), none, .conv .u32 (.t 87), none⟩,
  ⟨(some 89), none, .mv false (.t 13), none⟩,
  ⟨(some 90), none, .mv false (.t 8), none⟩,
  ⟨(some 91), none, .call false 12 [(.t 82), (.t 85), (.t 88), (.t 89), (.t 90)], none⟩,
  ⟨(some 81), none, .mv false (.t 91), none⟩,
  ⟨(some 92), none, .ext (.t 81) 0, none⟩,
  ⟨(some 93), none, .ext (.t 81) 1, none⟩,
  ⟨(some 94), none, .ext (.t 81) 2, none⟩,
  ⟨(some 18), none, .alloc [(.mp [] []), (.mp [] [])], none⟩,
  ⟨none, none, .st (some 2) (.t 18) (.t 92), none⟩,
  ⟨(some 19), none, .mv false (.t 93), none⟩,
  ⟨(some 20), none, .mv false (.t 94), none⟩] (some [7, 8, 9, 11, 12, 13, 14, 15, 17, 18, 19, 20])) (
.seq (.reg false [
  ⟨(some 96), none, .ld (some 2) (.t 7), none⟩,
  ⟨(some 97), none, .mv false (.t 11), none⟩,
  ⟨(some 98), none, .bin .add .i64 (.c (.int .i64 1048576)) (.t 97), none⟩,
  ⟨(some 99), none, .conv .u32 (.t 98), none⟩,
  ⟨(some 100), none, .mv false (.t 13), none⟩,
  ⟨(some 101), none, .mv false (.t 8), none⟩,
  ⟨(some 102), none, .call false 12 [(.t 96), (.t 99), (.c (.int .u32 0)), (.t 100), (.t 101)], none⟩,
  ⟨(some 95), none, .mv false (.t 102), none⟩,
  ⟨(some 103), none, .ext (.t 95) 0, none⟩,
  ⟨(some 104), none, .ext (.t 95) 1, none⟩,
  ⟨(some 105), none, .ext (.t 95) 2, none⟩,
  ⟨(some 21), none, .alloc [(.mp [] []), (.mp [] [])], none⟩,
  ⟨none, none, .st (some 2) (.t 21) (.t 103), none⟩,
  ⟨(some 22), none, .mv false (.t 104), none⟩,
  ⟨(some 23), none, .mv false (.t 105), none⟩] (some [8, 9, 11, 12, 13, 14, 15, 17, 18, 19, 20, 21, 23])) (
.seq (.reg false [
  ⟨(some 107), none, .ld (some 2) (.t 21), none⟩,
  ⟨(some 108), none, .mv false (.t 11), none⟩,
  ⟨(some 109), none, .bin .add .i64 (.c (.int .i64 1048576)) (.t 108), none⟩,
  ⟨(some 110), none, .conv .u32 (.t 109), none⟩,
  ⟨(some 111), none, .mv false (.t 13), none⟩,
  ⟨(some 112), none, .mv false (.t 8), none⟩,
  ⟨(some 113), none, .call false 12 [(.t 107), (.t 110), (.c (.int .u32 0)), (.t 111), (.t 112)], none⟩,
  ⟨(some 106), none, .mv false (.t 113), none⟩,
  ⟨(some 114), none, .ext (.t 106) 0, none⟩,
  ⟨(some 115), none, .ext (.t 106) 1, none⟩,
  ⟨(some 116), none, .ext (.t 106) 2, none⟩,
  ⟨(some 24), none, .alloc [(.mp [] []), (.mp [] [])], none⟩,
  ⟨none, none, .st (some 2) (.t 24) (.t 114), none⟩,
  ⟨(some 25), none, .mv false (.t 115), none⟩,
  ⟨(some 26), none, .mv false (.t 116), none⟩] (some [9, 11, 12, 14, 15, 17, 18, 19, 20, 21, 23, 24, 25, 26])) (
.seq (.reg false [
  ⟨(some 117), none, .ld (some 2) (.t 15), none⟩,
  ⟨(some 118), none, .call false 15 [(.t 117)], none⟩,
  ⟨(some 27), none, .mv false (.t 118), none⟩] (some [9, 11, 12, 14, 17, 18, 19, 20, 21, 23, 24, 25, 26, 27])) (
.seq (.seq (.reg true [
  ⟨(some 119), none, .mv false (.t 17), none⟩,
  ⟨(some 120), none, .bin .neq .i64 (.t 119) (.c (.int .i64 0)), none⟩,
  ⟨(some 121), none, .mv false (.t 120), none⟩,
  ⟨(some 122), some (121, false), .mv false (.t 20), none⟩,
  ⟨(some 123), some (121, false), .bin .neq .i64 (.t 122) (.c (.int .i64 0)), none⟩,
  ⟨(some 124), none, .pick (.t 121) (.c (.bool true)) (.t 123), none⟩,
  ⟨(some 125), none, .mv false (.t 124), none⟩,
  ⟨(some 126), some (125, false), .mv false (.t 23), none⟩,
  ⟨(some 127), some (125, false), .bin .neq .i64 (.t 126) (.c (.int .i64 0)), none⟩,
  ⟨(some 128), none, .pick (.t 125) (.c (.bool true)) (.t 127), none⟩,
  ⟨(some 129), none, .mv false (.t 128), none⟩,
  ⟨(some 130), some (129, false), .mv false (.t 26), none⟩,
  ⟨(some 131), some (129, false), .bin .neq .i64 (.t 130) (.c (.int .i64 0)), none⟩,
  ⟨(some 132), none, .pick (.t 129) (.c (.bool true)) (.t 131), none⟩,
  ⟨(some 133), none, .mv false (.t 132), none⟩,
  ⟨(some 134), some (133, false), .mv false (.t 19), none⟩,
  ⟨(some 135), none, .pick (.t 133) (.c (.bool true)) (.t 134), none⟩,
  ⟨(some 136), none, .mv false (.t 135), none⟩,
  ⟨(some 137), some (136, false), .mv false (.t 25), none⟩,
  ⟨(some 138), none, .pick (.t 136) (.c (.bool true)) (.t 137), none⟩,
  ⟨(some 139), none, .mv false (.t 138), none⟩,
  ⟨(some 140), some (139, false), .ld (some 2) (.t 18), none⟩,
  ⟨(some 141), some (139, false), .call false 15 [(.t 140)], none⟩,
  ⟨(some 142), some (139, false), .mv false (.t 27), none⟩,
  ⟨(some 143), some (139, false), .call false 14 [(.t 141), (.t 142)], none⟩,
  ⟨(some 144), some (139, false), .not (.t 143), none⟩,
  ⟨(some 145), none, .pick (.t 139) (.c (.bool true)) (.t 144), none⟩,
  ⟨(some 146), none, .mv false (.t 145), none⟩,
  ⟨(some 147), some (146, false), .ld (some 2) (.t 24), none⟩,
  ⟨(some 148), some (146, false), .call false 15 [(.t 147)], none⟩,
  ⟨(some 149), some (146, false), .ld (some 2) (.t 21), none⟩,
  ⟨(some 150), some (146, false), .call false 15 [(.t 149)], none⟩,
  ⟨(some 151), some (146, false), .call false 14 [(.t 148), (.t 150)], none⟩,
  ⟨(some 152), some (146, false), .not (.t 151), none⟩,
  ⟨(some 153), none, .pick (.t 146) (.c (.bool true)) (.t 152), none⟩] (some [9, 11, 12, 14, 21, 27, 153])) (
.ite (.t 153) (
  .seq (.reg false [
    ⟨(some 6), none, .mv false (.c (.bool false)), none⟩] (some [6])) (
  .ret)) (
  .skip))) (
.seq (.seq (.reg false [
  ⟨(some 154), none, .mv false (.t 27), none⟩,
  ⟨(some 155), none, .mv false (.t 11), none⟩,
  ⟨(some 156), none, .call false 13 [(.t 154), (.t 155)], none⟩,
  ⟨(some 157), none, .mv false (.t 27), none⟩,
  ⟨(some 158), none, .mv false (.t 12), none⟩,
  ⟨(some 159), none, .call false 13 [(.t 157), (.t 158)], none⟩,
  ⟨(some 160), none, .mv false (.t 14), none⟩,
  ⟨(some 161), none, .bin .add .i64 (.t 159) (.t 160), none⟩,
  ⟨(some 162), none, .bin .neq .i64 (.t 156) (.t 161), none⟩] (some [9, 11, 21, 27, 162])) (
.ite (.t 162) (
  .seq (.reg false [
    ⟨(some 6), none, .mv false (.c (.bool false)), none⟩] (some [6])) (
  .ret)) (
  .skip))) (
.seq (.reg false [
  ⟨(some 163), none, .mv false (.t 27), none⟩,
  ⟨(some 164), none, .mv false (.t 11), none⟩,
  ⟨(some 165), none, .call false 21 [(.t 163), (.t 164)], none⟩,
  ⟨(some 166), none, .mv false (.t 9), none⟩,
  ⟨(some 167), none, .mv false (.t 11), none⟩,
  ⟨(some 168), none, .call false 21 [(.t 166), (.t 167)], none⟩,
  ⟨(some 169), none, .call false 14 [(.t 165), (.t 168)], none⟩,
  ⟨(some 170), none, .mv false (.t 169), none⟩,
  ⟨(some 171), some (170, true), .ld (some 2) (.t 21), none⟩,
  ⟨(some 172), some (170, true), .call false 15 [(.t 171)], none⟩,
  ⟨(some 173), some (170, true), .mv false (.t 11), none⟩,
  ⟨(some 174), some (170, true), .call false 21 [(.t 172), (.t 173)], none⟩,
  ⟨(some 175), some (170, true), .mv false (.t 9), none⟩,
  ⟨(some 176), some (170, true), .mv false (.t 11), none⟩,
  ⟨(some 177), some (170, true), .call false 21 [(.t 175), (.t 176)], none⟩,
  ⟨(some 178), some (170, true), .call false 14 [(.t 174), (.t 177)], none⟩,
  ⟨(some 179), none, .pick (.t 170) (.t 178) (.c (.bool false)), none⟩,
  ⟨(some 180), none, .mv false (.t 179), none⟩,
  ⟨(some 181), some (180, true), .call false 10 [], none⟩,
  ⟨(some 182), none, .pick (.t 180) (.t 181) (.c (.bool false)), none⟩,
  ⟨(some 6), none, .mv false (.t 182), none⟩] (some [6])) (
.ret))))))))))))))))
set_option maxRecDepth 1000000 in
theorem comp_law29_StackTwice : (Try.f6.body.bind fun code => compC Try.prog Try.f6.ntmps code c_law29_StackTwice) = some c_law29_StackTwice.bare := by kernel_rfl
def r_law29_StackTwice : List R := [.t 6]
theorem spo_law29_StackTwice {ds : List D} {d : D} (hn : Nat.ble ds.length 183 = true) (h : run TSpC gtab 0 c_law29_StackTwice (retK r_law29_StackTwice (· = d)) ⟨env0 0 ds, []⟩) : TSp 6 ds d := Sp_of mixed c_law29_StackTwice r_law29_StackTwice (fn := Try.f6) (by kernel_rfl) (by kernel_rfl) comp_law29_StackTwice (by kernel_rfl) hn h
theorem spm_law29_StackTwice {ds : List D} {d : D} {bx bx' : List Ent} (hn : Nat.ble ds.length 183 = true) (h : run TSpC gtab (sizeE bx) c_law29_StackTwice (retG r_law29_StackTwice (fun d1 bx1 => Rt (sizeE bx) bx1 d1 d bx')) ⟨env0 0 ds, bx⟩) : TSpM 6 ds bx d bx' := SpM_of mixed c_law29_StackTwice r_law29_StackTwice (fn := Try.f6) (by kernel_rfl) (by kernel_rfl) comp_law29_StackTwice (by kernel_rfl) hn h
/-- glazier/glazierlaw29.StackOthers -/
def c_law29_StackOthers : C := .seq (.reg false [
  ⟨(some 2), none, .box true (.t 0), none⟩,
  ⟨(some 4), none, .mv false (.c (.bool false)), none⟩] (some [1, 2])) (
.seq (.seq (.reg false [
  ⟨(some 25), none, .ld (some 2) (.t 2), none⟩,
  ⟨(some 26), none, .call false 9 [(.t 25)], none⟩,
  ⟨(some 27), none, .mv false (.t 26), none⟩,
  ⟨(some 28), some (27, false), .fld 0 (.t 2), none⟩,
  ⟨(some 29), some (27, false), .ld none (.t 28), none⟩,
  ⟨(some 30), some (27, false), .len false (.t 29), none⟩,
  ⟨(some 31), some (27, false), .bin .eql .i64 (.t 30) (.c (.int .i64 0)), none⟩,
  ⟨(some 32), none, .pick (.t 27) (.c (.bool true)) (.t 31), none⟩] (some [1, 2, 32])) (
.ite (.t 32) (
  .seq (.reg false [
    ⟨(some 33), none, .call false 10 [], none⟩,
    ⟨(some 4), none, .mv false (.t 33), none⟩] (some [4])) (
  .ret)) (
  .skip))) (
.seq (.reg false [
  ⟨(some 34), none, .fld 1 (.t 2), none⟩,
  ⟨none, none, .st none (.t 34) (.c (.int .u8 255)), none⟩] (some [1, 2])) (
.seq (.reg false [
  ⟨(some 36), none, .ld (some 2) (.t 2), none⟩,
  ⟨(some 37), none, .call false 11 [(.t 36)], none⟩,
  ⟨(some 35), none, .mv false (.t 37), none⟩,
  ⟨(some 38), none, .ext (.t 35) 0, none⟩,
  ⟨(some 39), none, .ext (.t 35) 1, none⟩,
  ⟨(some 40), none, .ext (.t 35) 2, none⟩,
  ⟨(some 41), none, .ext (.t 35) 3, none⟩,
  ⟨(some 5), none, .alloc [(.mp [] []), (.mp [] [])], none⟩,
  ⟨none, none, .st (some 2) (.t 5) (.t 38), none⟩,
  ⟨(some 6), none, .mv false (.t 39), none⟩,
  ⟨(some 7), none, .mv false (.t 40), none⟩,
  ⟨(some 8), none, .mv false (.t 41), none⟩] (some [1, 5, 6, 7, 8])) (
.seq (.seq (.reg false [
  ⟨(some 42), none, .mv false (.t 8), none⟩,
  ⟨(some 43), none, .not (.t 42), none⟩] (some [1, 5, 6, 7, 43])) (
.ite (.t 43) (
  .seq (.reg false [
    ⟨(some 4), none, .mv false (.c (.bool false)), none⟩] (some [4])) (
  .ret)) (
  .skip))) (
.seq (.reg false [
  ⟨(some 45), none, .ld (some 2) (.t 5), none⟩,
  ⟨(some 46), none, .mv false (.t 1), none⟩,
  ⟨(some 47), none, .bin .rem .u8 (.t 46) (.c (.int .u8 5)), none⟩,
  ⟨(some 48), none, .conv .i64 (.t 47), none⟩,
  ⟨(some 49), none, .mv false (.t 6), none⟩,
  ⟨(some 50), none, .call false 12 [(.t 45), (.c (.int .u32 1)), (.c (.int .u32 0)), (.t 48), (.t 49)], none⟩,
  ⟨(some 44), none, .mv false (.t 50), none⟩,
  ⟨(some 51), none, .ext (.t 44) 0, none⟩,
  ⟨(some 52), none, .ext (.t 44) 1, none⟩,
  ⟨(some 53), none, .ext (.t 44) 2, none⟩,
  ⟨(some 9), none, .alloc [(.mp [] []), (.mp [] [])], none⟩,
  ⟨none, none, .st (some 2) (.t 9) (.t 51), none⟩,
  ⟨(some 10), none, .mv false (.t 52), none⟩,
  ⟨(some 11), none, .mv false (.t 53), none⟩] (some [1, 5, 6, 7, 10, 11])) (
.seq (.reg false [
  ⟨(some 55), none, .ld (some 2) (.t 5), none⟩,
  ⟨(some 56), none, .mv false (.t 1), none⟩,
  ⟨(some 57), none, .bin .rem .u8 (.t 56) (.c (.int .u8 5)), none⟩,
  ⟨(some 58), none, .conv .i64 (.t 57), none⟩,
  ⟨(some 59), none, .mv false (.t 6), none⟩,
  ⟨(some 60), none, .call false 12 [(.t 55), (.c (.int .u32 1048577)), (.c (.int .u32 1048676)), (.t 58), (.t 59)], none⟩,
  ⟨(some 54), none, .mv false (.t 60), none⟩,
  ⟨(some 61), none, .ext (.t 54) 0, none⟩,
  ⟨(some 62), none, .ext (.t 54) 1, none⟩,
  ⟨(some 63), none, .ext (.t 54) 2, none⟩,
  ⟨(some 12), none, .alloc [(.mp [] []), (.mp [] [])], none⟩,
  ⟨none, none, .st (some 2) (.t 12) (.t 61), none⟩,
  ⟨(some 13), none, .mv false (.t 62), none⟩,
  ⟨(some 14), none, .mv false (.t 63), none⟩] (some [1, 5, 6, 7, 10, 11, 13, 14])) (
.seq (.reg false [
  ⟨(some 65), none, .ld (some 2) (.t 5), none⟩,
  ⟨(some 66), none, .mv false (.t 1), none⟩,
  ⟨(some 67), none, .bin .rem .u8 (.t 66) (.c (.int .u8 5)), none⟩,
  ⟨(some 68), none, .conv .i64 (.t 67), none⟩,
  ⟨(some 69), none, .mv false (.t 6), none⟩,
  ⟨(some 70), none, .call false 12 [(.t 65), (.c (.int .u32 1048676)), (.c (.int .u32 1048577)), (.t 68), (.t 69)], none⟩,
  ⟨(some 64), none, .mv false (.t 70), none⟩,
  ⟨(some 71), none, .ext (.t 64) 0, none⟩,
  ⟨(some 72), none, .ext (.t 64) 1, none⟩,
  ⟨(some 73), none, .ext (.t 64) 2, none⟩,
  ⟨(some 15), none, .alloc [(.mp [] []), (.mp [] [])], none⟩,
  ⟨none, none, .st (some 2) (.t 15) (.t 71), none⟩,
  ⟨(some 16), none, .mv false (.t 72), none⟩,
  ⟨(some 17), none, .mv false (.t 73), none⟩] (some [1, 5, 6, 7, 10, 11, 13, 14, 16, 17])) (
.seq (.reg false [
  ⟨(some 75), none, .ld (some 2) (.t 5), none⟩,
  ⟨(some 76), none, .call false 18 [(.t 75), (.c (.int .u32 1048577)), (.c (.int .u32 1048676))], none⟩,
  ⟨(some 74), none, .mv false (.t 76), none⟩,
  ⟨(some 77), none, .ext (.t 74) 0, none⟩,
  ⟨(some 78), none, .ext (.t 74) 1, none⟩,
  ⟨(some 18), none, .mv false (.t 77), none⟩,
  ⟨(some 19), none, .mv false (.t 78), none⟩] (some [1, 5, 6, 7, 10, 11, 13, 14, 16, 17, 19])) (
.seq (.reg false [
  ⟨(some 80), none, .ld (some 2) (.t 5), none⟩,
  ⟨(some 81), none, .call false 18 [(.t 80), (.c (.int .u32 1)), (.c (.int .u32 1))], none⟩,
  ⟨(some 79), none, .mv false (.t 81), none⟩,
  ⟨(some 82), none, .ext (.t 79) 0, none⟩,
  ⟨(some 83), none, .ext (.t 79) 1, none⟩,
  ⟨(some 20), none, .mv false (.t 82), none⟩,
  ⟨(some 21), none, .mv false (.t 83), none⟩] (some [1, 5, 6, 7, 10, 11, 13, 14, 16, 17, 19, 20, 21])) (
.seq (.reg false [
  ⟨(some 85), none, .ld (some 2) (.t 5), none⟩,
  ⟨(some 86), none, .mv false (.t 1), none⟩,
  ⟨(some 87), none, .bin .rem .u8 (.t 86) (.c (.int .u8 2)), none⟩,
  ⟨(some 88), none, .bin .eql .u8 (.t 87) (.c (.int .u8 0)), none⟩,
  ⟨(some 89), none, .mv false (.t 6), none⟩,
  ⟨(some 90), none, .call false 22 [(.t 85), (.c (.int .u32 1048626)), (.t 88), (.t 89)], none⟩,
  ⟨(some 84), none, .mv false (.t 90), none⟩,
  ⟨(some 91), none, .ext (.t 84) 0, none⟩,
  ⟨(some 92), none, .ext (.t 84) 1, none⟩,
  ⟨(some 93), none, .ext (.t 84) 2, none⟩,
  ⟨(some 22), none, .alloc [(.mp [] []), (.mp [] [])], none⟩,
  ⟨none, none, .st (some 2) (.t 22) (.t 91), none⟩,
  ⟨(some 23), none, .mv false (.t 92), none⟩,
  ⟨(some 24), none, .mv false (.t 93), none⟩] (some [5, 6, 7, 10, 11, 13, 14, 16, 17, 19, 20, 21, 22, 23, 24])) (
.seq (.reg false [
  ⟨(some 94), none, .mv false (.t 10), none⟩,
  ⟨(some 95), none, .not (.t 94), none⟩,
  ⟨(some 96), none, .mv false (.t 95), none⟩,
  ⟨(some 97), some (96, true), .mv false (.t 11), none⟩,
  ⟨(some 98), some (96, true), .bin .eql .i64 (.t 97) (.c (.int .i64 23)), none⟩,
  ⟨(some 99), none, .pick (.t 96) (.t 98) (.c (.bool false)), none⟩,
  ⟨(some 100), none, .mv false (.t 99), none⟩,
  ⟨(some 101), some (100, true), .mv false (.t 13), none⟩,
  ⟨(some 102), some (100, true), .not (.t 101), none⟩,
  ⟨(some 103), none, .pick (.t 100) (.t 102) (.c (.bool false)), none⟩,
  ⟨(some 104), none, .mv false (.t 103), none⟩,
  ⟨(some 105), some (104, true), .mv false (.t 14), none⟩,
  ⟨(some 106), some (104, true), .bin .eql .i64 (.t 105) (.c (.int .i64 14)), none⟩,
  ⟨(some 107), none, .pick (.t 104) (.t 106) (.c (.bool false)), none⟩,
  ⟨(some 108), none, .mv false (.t 107), none⟩,
  ⟨(some 109), some (108, true), .mv false (.t 16), none⟩,
  ⟨(some 110), some (108, true), .not (.t 109), none⟩,
  ⟨(some 111), none, .pick (.t 108) (.t 110) (.c (.bool false)), none⟩,
  ⟨(some 112), none, .mv false (.t 111), none⟩,
  ⟨(some 113), some (112, true), .mv false (.t 17), none⟩,
  ⟨(some 114), some (112, true), .bin .eql .i64 (.t 113) (.c (.int .i64 14)), none⟩,
  ⟨(some 115), none, .pick (.t 112) (.t 114) (.c (.bool false)), none⟩,
  ⟨(some 116), none, .mv false (.t 115), none⟩,
  ⟨(some 117), some (116, true), .mv false (.t 19), none⟩,
  ⟨(some 118), some (116, true), .not (.t 117), none⟩,
  ⟨(some 119), none, .pick (.t 116) (.t 118) (.c (.bool false)), none⟩,
  ⟨(some 120), none, .mv false (.t 119), none⟩,
  ⟨(some 121), some (120, true), .mv false (.t 20), none⟩,
  ⟨(some 122), some (120, true), .bin .eql .i64 (.t 121) (.c (.int .i64 0)), none⟩,
  ⟨(some 123), none, .pick (.t 120) (.t 122) (.c (.bool false)), none⟩,
  ⟨(some 124), none, .mv false (.t 123), none⟩,
  ⟨(some 125), some (124, true), .mv false (.t 21), none⟩,
  ⟨(some 126), none, .pick (.t 124) (.t 125) (.c (.bool false)), none⟩,
  ⟨(some 127), none, .mv false (.t 126), none⟩,
  ⟨(some 128), some (127, true), .mv false (.t 24), none⟩,
  ⟨(some 129), some (127, true), .not (.t 128), none⟩,
  ⟨(some 130), none, .pick (.t 127) (.t 129) (.c (.bool false)), none⟩,
  ⟨(some 131), none, .mv false (.t 130), none⟩,
  ⟨(some 132), some (131, true), .mv false (.t 23), none⟩,
  ⟨(some 133), some (131, true), .bin .eql .u32 (.t 132) (.c (.int .u32 0)), none⟩,
  ⟨(some 134), none, .pick (.t 131) (.t 133) (.c (.bool false)), none⟩,
  ⟨(some 135), none, .mv false (.t 134), none⟩,
  ⟨(some 136), some (135, true), .ld (some 2) (.t 22), none⟩,
  ⟨(some 137), some (135, true), .call false 15 [(.t 136)], none⟩,
  ⟨(some 138), some (135, true), .mv false (.t 7), none⟩,
  ⟨(some 139), some (135, true), .call false 14 [(.t 137), (.t 138)], none⟩,
  ⟨(some 140), none, .pick (.t 135) (.t 139) (.c (.bool false)), none⟩,
  ⟨(some 141), none, .mv false (.t 140), none⟩,
  ⟨(some 142), some (141, true), .ld (some 2) (.t 5), none⟩,
  ⟨(some 143), some (141, true), .mv false (.t 6), none⟩,
  ⟨(some 144), some (141, true), .call false 19 [(.t 142), (.c (.int .u32 1048676)), (.c (.int .u32 1048577)), (.t 143)], none⟩,
  ⟨(some 145), some (141, true), .not (.t 144), none⟩,
  ⟨(some 146), none, .pick (.t 141) (.t 145) (.c (.bool false)), none⟩,
  ⟨(some 147), none, .mv false (.t 146), none⟩,
  ⟨(some 148), some (147, true), .call false 10 [], none⟩,
  ⟨(some 149), none, .pick (.t 147) (.t 148) (.c (.bool false)), none⟩,
  ⟨(some 4), none, .mv false (.t 149), none⟩] (some [4])) (
.ret))))))))))))
set_option maxRecDepth 1000000 in
theorem comp_law29_StackOthers : (Try.f7.body.bind fun code => compC Try.prog Try.f7.ntmps code c_law29_StackOthers) = some c_law29_StackOthers.bare := by kernel_rfl
def r_law29_StackOthers : List R := [.t 4]
theorem spo_law29_StackOthers {ds : List D} {d : D} (hn : Nat.ble ds.length 150 = true) (h : run TSpC gtab 0 c_law29_StackOthers (retK r_law29_StackOthers (· = d)) ⟨env0 0 ds, []⟩) : TSp 7 ds d := Sp_of mixed c_law29_StackOthers r_law29_StackOthers (fn := Try.f7) (by kernel_rfl) (by kernel_rfl) comp_law29_StackOthers (by kernel_rfl) hn h
theorem spm_law29_StackOthers {ds : List D} {d : D} {bx bx' : List Ent} (hn : Nat.ble ds.length 150 = true) (h : run TSpC gtab (sizeE bx) c_law29_StackOthers (retG r_law29_StackOthers (fun d1 bx1 => Rt (sizeE bx) bx1 d1 d bx')) ⟨env0 0 ds, bx⟩) : TSpM 7 ds bx d bx' := SpM_of mixed c_law29_StackOthers r_law29_StackOthers (fn := Try.f7) (by kernel_rfl) (by kernel_rfl) comp_law29_StackOthers (by kernel_rfl) hn h
/-- glazier/glazierlaw29.StackCirculates -/
def c_law29_StackCirculates : C := .seq (.reg false [
  ⟨(some 2), none, .box true (.t 0), none⟩,
  ⟨(some 4), none, .mv false (.c (.bool false)), none⟩] (some [1, 2])) (
.seq (.seq (.reg false [
  ⟨(some 14), none, .ld (some 2) (.t 2), none⟩,
  ⟨(some 15), none, .call false 9 [(.t 14)], none⟩] (some [1, 2, 15])) (
.ite (.t 15) (
  .seq (.reg false [
    ⟨(some 16), none, .call false 10 [], none⟩,
    ⟨(some 4), none, .mv false (.t 16), none⟩] (some [4])) (
  .ret)) (
  .skip))) (
.seq (.reg false [
  ⟨(some 18), none, .ld (some 2) (.t 2), none⟩,
  ⟨(some 19), none, .call false 11 [(.t 18)], none⟩,
  ⟨(some 17), none, .mv false (.t 19), none⟩,
  ⟨(some 20), none, .ext (.t 17) 0, none⟩,
  ⟨(some 21), none, .ext (.t 17) 1, none⟩,
  ⟨(some 22), none, .ext (.t 17) 2, none⟩,
  ⟨(some 23), none, .ext (.t 17) 3, none⟩,
  ⟨(some 5), none, .alloc [(.mp [] []), (.mp [] [])], none⟩,
  ⟨none, none, .st (some 2) (.t 5) (.t 20), none⟩,
  ⟨(some 6), none, .mv false (.t 21), none⟩,
  ⟨(some 7), none, .mv false (.t 22), none⟩,
  ⟨(some 8), none, .mv false (.t 23), none⟩] (some [1, 2, 5, 6, 7, 8])) (
.seq (.seq (.reg false [
  ⟨(some 24), none, .mv false (.t 8), none⟩,
  ⟨(some 25), none, .not (.t 24), none⟩] (some [1, 2, 5, 6, 7, 25])) (
.ite (.t 25) (
  .seq (.reg false [
    ⟨(some 4), none, .mv false (.c (.bool false)), none⟩] (some [4])) (
  .ret)) (
  .skip))) (
.seq (.reg false [
  ⟨(some 27), none, .ld (some 2) (.t 5), none⟩,
  ⟨(some 28), none, .mv false (.t 1), none⟩,
  ⟨(some 29), none, .mv false (.t 6), none⟩,
  ⟨(some 30), none, .call false 22 [(.t 27), (.c (.int .u32 1)), (.t 28), (.t 29)], none⟩,
  ⟨(some 26), none, .mv false (.t 30), none⟩,
  ⟨(some 31), none, .ext (.t 26) 0, none⟩,
  ⟨(some 32), none, .ext (.t 26) 1, none⟩,
  ⟨(some 33), none, .ext (.t 26) 2, none⟩,
  ⟨(some 9), none, .alloc [(.mp [] []), (.mp [] [])], none⟩,
  ⟨none, none, .st (some 2) (.t 9) (.t 31), none⟩,
  ⟨(some 10), none, .mv false (.t 32), none⟩,
  ⟨(some 11), none, .mv false (.t 33), none⟩] (some [1, 2, 7, 9, 10, 11])) (
.seq (.reg false [
  ⟨(some 35), none, .mv false (.t 7), none⟩,
  ⟨(some 36), none, .mv false (.t 1), none⟩,
  ⟨(some 37), none, .call false 23 [(.t 35), (.t 36)], none⟩,
  ⟨(some 34), none, .mv false (.t 37), none⟩,
  ⟨(some 38), none, .ext (.t 34) 0, none⟩,
  ⟨(some 39), none, .ext (.t 34) 1, none⟩,
  ⟨(some 12), none, .mv false (.t 38), none⟩,
  ⟨(some 13), none, .mv false (.t 39), none⟩] (some [2, 9, 10, 11, 12, 13])) (
.seq (.reg false [
  ⟨(some 40), none, .mv false (.t 11), none⟩,
  ⟨(some 41), none, .mv false (.t 13), none⟩,
  ⟨(some 42), none, .bin .gtr .i64 (.t 41) (.c (.int .i64 0)), none⟩,
  ⟨(some 43), none, .eqb false false (.t 40) (.t 42), none⟩,
  ⟨(some 44), none, .mv false (.t 43), none⟩,
  ⟨(some 45), some (44, true), .mv false (.t 13), none⟩,
  ⟨(some 46), some (44, true), .bin .eql .i64 (.t 45) (.c (.int .i64 0)), none⟩,
  ⟨(some 47), some (44, true), .mv false (.t 46), none⟩,
  ⟨(some 48), some (47, true), .mv false (.t 10), none⟩,
  ⟨(some 49), some (47, true), .bin .eql .u32 (.t 48) (.c (.int .u32 0)), none⟩,
  ⟨(some 50), some (44, true), .pick (.t 47) (.t 49) (.c (.bool false)), none⟩,
  ⟨(some 51), some (44, true), .mv false (.t 50), none⟩,
  ⟨(some 52), some (51, false), .mv false (.t 13), none⟩,
  ⟨(some 53), some (51, false), .bin .gtr .i64 (.t 52) (.c (.int .i64 0)), none⟩,
  ⟨(some 54), some (51, false), .mv false (.t 53), none⟩,
  ⟨(some 55), some (54, true), .mv false (.t 10), none⟩,
  ⟨(some 56), some (54, true), .mv false (.t 13), none⟩,
  ⟨(some 57), some (54, true), .bin .add .i64 (.c (.int .i64 1048576)) (.t 56), none⟩,
  ⟨(some 58), some (54, true), .conv .u32 (.t 57), none⟩,
  ⟨(some 59), some (54, true), .bin .eql .u32 (.t 55) (.t 58), none⟩,
  ⟨(some 60), some (51, false), .pick (.t 54) (.t 59) (.c (.bool false)), none⟩,
  ⟨(some 61), some (44, true), .pick (.t 51) (.c (.bool true)) (.t 60), none⟩,
  ⟨(some 62), none, .pick (.t 44) (.t 61) (.c (.bool false)), none⟩,
  ⟨(some 63), none, .mv false (.t 62), none⟩,
  ⟨(some 64), some (63, true), .ld (some 2) (.t 9), none⟩,
  ⟨(some 65), some (63, true), .call false 15 [(.t 64)], none⟩,
  ⟨(some 66), some (63, true), .mv false (.t 12), none⟩,
  ⟨(some 67), some (63, true), .call false 14 [(.t 65), (.t 66)], none⟩,
  ⟨(some 68), none, .pick (.t 63) (.t 67) (.c (.bool false)), none⟩,
  ⟨(some 69), none, .mv false (.t 68), none⟩,
  ⟨(some 70), some (69, true), .ld (some 2) (.t 9), none⟩,
  ⟨(some 71), some (69, true), .ld (some 2) (.t 2), none⟩,
  ⟨(some 72), some (69, true), .call false 17 [(.t 70), (.t 71)], none⟩,
  ⟨(some 73), none, .pick (.t 69) (.t 72) (.c (.bool false)), none⟩,
  ⟨(some 74), none, .mv false (.t 73), none⟩,
  ⟨(some 75), some (74, true), .call false 10 [], none⟩,
  ⟨(some 76), none, .pick (.t 74) (.t 75) (.c (.bool false)), none⟩,
  ⟨(some 4), none, .mv false (.t 76), none⟩] (some [4])) (
.ret)))))))
set_option maxRecDepth 1000000 in
theorem comp_law29_StackCirculates : (Try.f8.body.bind fun code => compC Try.prog Try.f8.ntmps code c_law29_StackCirculates) = some c_law29_StackCirculates.bare := by kernel_rfl
def r_law29_StackCirculates : List R := [.t 4]
theorem spo_law29_StackCirculates {ds : List D} {d : D} (hn : Nat.ble ds.length 77 = true) (h : run TSpC gtab 0 c_law29_StackCirculates (retK r_law29_StackCirculates (· = d)) ⟨env0 0 ds, []⟩) : TSp 8 ds d := Sp_of mixed c_law29_StackCirculates r_law29_StackCirculates (fn := Try.f8) (by kernel_rfl) (by kernel_rfl) comp_law29_StackCirculates (by kernel_rfl) hn h
theorem spm_law29_StackCirculates {ds : List D} {d : D} {bx bx' : List Ent} (hn : Nat.ble ds.length 77 = true) (h : run TSpC gtab (sizeE bx) c_law29_StackCirculates (retG r_law29_StackCirculates (fun d1 bx1 => Rt (sizeE bx) bx1 d1 d bx')) ⟨env0 0 ds, bx⟩) : TSpM 8 ds bx d bx' := SpM_of mixed c_law29_StackCirculates r_law29_StackCirculates (fn := Try.f8) (by kernel_rfl) (by kernel_rfl) comp_law29_StackCirculates (by kernel_rfl) hn h
/-- glazier/rect.Check -/
def c_rect_Check : C := .seq (.reg false [
  ⟨(some 1), none, .box true (.t 0), none⟩,
  ⟨(some 2), none, .mv false (.c (.int .i64 0)), none⟩] (some [1])) (
.seq (.seq (.reg false [
  ⟨(some 3), none, .ld (some 4) (.t 1), none⟩,
  ⟨(some 4), none, .bld [(.int .i64 0), (.int .i64 0), (.int .i64 0), (.int .i64 0)] [], none⟩,
  ⟨(some 5), none, .eqS false [.i .i64, .i .i64, .i .i64, .i .i64] (.t 3) (.t 4), none⟩,
  ⟨(some 6), none, .mv false (.t 5), none⟩,
  ⟨(some 7), some (6, false), .fld 0 (.t 1), none⟩,
  ⟨(some 8), some (6, false), .ld none (.t 7), none⟩,
  ⟨(some 9), some (6, false), .fld 2 (.t 1), none⟩,
  ⟨(some 10), some (6, false), .ld none (.t 9), none⟩,
  ⟨(some 11), some (6, false), .call false 75 [(.t 8), (.t 10)], none⟩,
  ⟨(some 12), some (6, false), .mv false (.t 11), none⟩,
  ⟨(some 13), some (12, true), .fld 1 (.t 1), none⟩,
  ⟨(some 14), some (12, true), .ld none (.t 13), none⟩,
  ⟨(some 15), some (12, true), .fld 3 (.t 1), none⟩,
  ⟨(some 16), some (12, true), .ld none (.t 15), none⟩,
  ⟨(some 17), some (12, true), .call false 75 [(.t 14), (.t 16)], none⟩,
  ⟨(some 18), some (6, false), .pick (.t 12) (.t 17) (.c (.bool false)), none⟩,
  ⟨(some 19), none, .pick (.t 6) (.c (.bool true)) (.t 18), none⟩] (some [19])) (
.ite (.t 19) (
  .seq (.reg false [
    ⟨(some 2), none, .mv false (.c (.int .i64 0)), none⟩] (some [2])) (
  .ret)) (
  .skip))) (
.seq (.reg false [
  ⟨(some 2), none, .mv false (.c (.int .i64 1)), none⟩] (some [2])) (
.ret)))
set_option maxRecDepth 1000000 in
theorem comp_rect_Check : (Try.f72.body.bind fun code => compC Try.prog Try.f72.ntmps code c_rect_Check) = some c_rect_Check.bare := by kernel_rfl
def r_rect_Check : List R := [.t 2]
theorem spo_rect_Check {ds : List D} {d : D} (hn : Nat.ble ds.length 20 = true) (h : run TSpC gtab 0 c_rect_Check (retK r_rect_Check (· = d)) ⟨env0 0 ds, []⟩) : TSp 72 ds d := Sp_of mixed c_rect_Check r_rect_Check (fn := Try.f72) (by kernel_rfl) (by kernel_rfl) comp_rect_Check (by kernel_rfl) hn h
theorem spm_rect_Check {ds : List D} {d : D} {bx bx' : List Ent} (hn : Nat.ble ds.length 20 = true) (h : run TSpC gtab (sizeE bx) c_rect_Check (retG r_rect_Check (fun d1 bx1 => Rt (sizeE bx) bx1 d1 d bx')) ⟨env0 0 ds, bx⟩) : TSpM 72 ds bx d bx' := SpM_of mixed c_rect_Check r_rect_Check (fn := Try.f72) (by kernel_rfl) (by kernel_rfl) comp_rect_Check (by kernel_rfl) hn h
/-- glazier/rect.fits -/
def c_rect_fits : C := .seq (.reg false [
  ⟨(some 4), none, .mv false (.c (.bool false)), none⟩] (some [0, 1])) (
.seq (.reg false [
  ⟨(some 5), none, .mv false (.t 0), none⟩,
  ⟨(some 6), none, .bin .geq .i64 (.t 5) (.c (.int .i64 (-1048576))), none⟩,
  ⟨(some 7), none, .mv false (.t 6), none⟩,
  ⟨(some 8), some (7, true), .mv false (.t 1), none⟩,
  ⟨(some 9), some (7, true), .bin .geq .i64 (.t 8) (.c (.int .i64 1)), none⟩,
  ⟨(some 10), none, .pick (.t 7) (.t 9) (.c (.bool false)), none⟩,
  ⟨(some 11), none, .mv false (.t 10), none⟩,
  ⟨(some 12), some (11, true), .mv false (.t 1), none⟩,
  ⟨(some 13), some (11, true), .mv false (.t 0), none⟩,
  ⟨(some 14), some (11, true), .bin .sub .i64 (.c (.int .i64 1048576)) (.t 13), none⟩,
  ⟨(some 15), some (11, true), .bin .leq .i64 (.t 12) (.t 14), none⟩,
  ⟨(some 16), none, .pick (.t 11) (.t 15) (.c (.bool false)), none⟩,
  ⟨(some 4), none, .mv false (.t 16), none⟩] (some [4])) (
.ret))
set_option maxRecDepth 1000000 in
theorem comp_rect_fits : (Try.f75.body.bind fun code => compC Try.prog Try.f75.ntmps code c_rect_fits) = some c_rect_fits.bare := by kernel_rfl
def r_rect_fits : List R := [.t 4]
theorem spo_rect_fits {ds : List D} {d : D} (hn : Nat.ble ds.length 17 = true) (h : run TSpC gtab 0 c_rect_fits (retK r_rect_fits (· = d)) ⟨env0 0 ds, []⟩) : TSp 75 ds d := Sp_of mixed c_rect_fits r_rect_fits (fn := Try.f75) (by kernel_rfl) (by kernel_rfl) comp_rect_fits (by kernel_rfl) hn h
theorem spm_rect_fits {ds : List D} {d : D} {bx bx' : List Ent} (hn : Nat.ble ds.length 17 = true) (h : run TSpC gtab (sizeE bx) c_rect_fits (retG r_rect_fits (fun d1 bx1 => Rt (sizeE bx) bx1 d1 d bx')) ⟨env0 0 ds, bx⟩) : TSpM 75 ds bx d bx' := SpM_of mixed c_rect_fits r_rect_fits (fn := Try.f75) (by kernel_rfl) (by kernel_rfl) comp_rect_fits (by kernel_rfl) hn h
end Go.AM
